/- Several texts in one: C4, P3, M1, C5, C6, C7, C8. -/
import Derived.Test.YtblfodnajpamfaaGreatDoorQ2
import Derived.Test.YtblfodnajpamfaaGreatDoorQ1
import Derived.Test.YtblfodnajpamfaaGreatDoorZ7
set_option linter.unusedSimpArgs false
set_option linter.unusedVariables false
set_option linter.unusedSectionVars false
/- Contracts: the step from state to state; of both. -/
namespace Go.Ab.A15
open Go Go.Ab Go.Ab.A34
abbrev SN : SV := .sc (.slice none 0 0)
abbrev sC (s : Sn) : List SV := [Str s.t, IL s.a, I64 s.bf, I64 s.ix, IL s.ps]
def folV (st : ByteArray) (sa : List Int) (idx : Int) (d : Dp) : SV := if st = d.f then (match folI d sa with
  | none => .tup [.agg [Str ⟨#[]⟩, SN, I64 0, I64 0, SN], SB false]
  | some q => .tup [.agg [Str d.t, IL (q.map (·.2)), I64 0, I64 idx, IL (q.map (·.1))], SB true]) else .tup [.agg [Str ⟨#[]⟩, SN, I64 0, I64 0, SN], SB false]
def nexV (st : ByteArray) (sa : List Int) (n : Int) (d : Dp) : SV := if st = d.f then (match folI d sa with
  | none => .tup [.agg [Str ⟨#[]⟩, SN, I64 0], SB false]
  | some q => .tup [.agg [Str d.t, IL (q.map (·.2)), I64 (n + 1)], SB true]) else .tup [.agg [Str ⟨#[]⟩, SN, I64 0], SB false]
/-- The rest of the way, what was found so far ahead. -/
def folR (d : Dp) (pre : List (Int × Int)) (o : Option (List (Int × Int))) : Option (List (Int × Int)) := match o with
  | none => none
  | some q => some (pre ++ q)
theorem folI_drop {d : Dp} {a : List Int} {i : Nat} (h : i < a.length) : folI d (a.drop i) = if atI (a.getD i 0) 0 d.l < 0 then none else match folI d (a.drop (i + 1)) with
    | none => none
    | some q => some ((atI (a.getD i 0) 0 d.l, d.r.getD (atI (a.getD i 0) 0 d.l).toNat 0) :: q) := by
  have g : a.getD i 0 = a[i] := by simp [List.getD_eq_getElem?_getD, h]
  rw [List.drop_eq_getElem_cons h, g]
  rfl
theorem ints_get (A : List Int) (p : Nat) : iF A p = getN (.ints .i64 A) (0 + p * 1) 1 := by
  rw [Nat.zero_add, Nat.mul_one]
  rfl
end Go.Ab.A15
namespace Go.Proofs.YtblfodnajpamfaaGreatDoor
open Go Go.Ab Go.Ab.A34 Go.Ab.A15
variable [Gl] [Tabs]

set_option maxHeartbeats 4000000 in
set_option maxRecDepth 20000 in
theorem follow_p (st : ByteArray) (sa : List Int) (z1 z2 : Int) (ps : SV) (hps : single ps = true) (idx : Int) (d : Dp) (hlr : d.l.length = d.r.length) (hdl : d.l.length ≤ 1000000) (hsa : sa.length ≤ 1000000) :
    PCall Tryz.prog 69 [.agg [Str st, IL sa, I64 z1, I64 z2, ps], I64 idx, DV d] (folV st sa idx d) := by
  have cd := fun x => index_i x d.l d.l.length (by omega) rfl (iF d.l) (fun i hi => rfl)
  obtain ⟨X, hX⟩ : ∃ X, X = folV st sa idx d := ⟨_, rfl⟩
  rw [← hX]
  unfold folV at hX
  obtain ⟨O, hO⟩ : ∃ O, O = folI d sa := ⟨_, rfl⟩
  rw [← hO] at hX
  have hstep := fun i (h : i < sa.length) => folI_drop (d := d) h
  have hat := fun x => atI_lt (x := x) (l := d.l)
  obtain ⟨df, dl, dt, dr⟩ := d
  simp only at hX hlr hdl hat cd
  by_cases hf : st = df
  · rw [if_pos hf] at hX
    have ee : (st.toList == df.toList) = true := barr_eq.2 hf
    refine Call.enter' (N := 57) (rs := [.cell 6 90, .tmp 7]) Tryz.func69 rfl rfl rfl (by decide) rfl ?_; simp only [argT]; have hD : (0 : Nat) = 0 := rfl
    repeat' first | (refine SW.seq_k fun K hK => ?_) | (refine SW.block ?_) | ((first | refine SW.region ?_ | refine SW.cond ?_ | refine SW.skip ?_ | (refine allF_i fun b hb => ?_; replace hD := And.intro hb hD; clear hb; try simp only [fresh_cons, fresh_nil, and_true, ne_eq, neF] at hD)); try simp only [go_sem, hD, ee, hps, true_implies]) | ((first | apply hK | (clear hK K; apply hK) | (clear hK K; clear hK K; apply hK)); clear hK K)
    obtain ⟨nb, rfl⟩ : ∃ x, x = b := ⟨_, rfl⟩
    obtain ⟨rb, rfl⟩ : ∃ x, x = b := ⟨_, rfl⟩
    obtain ⟨db, rfl⟩ : ∃ x, x = b := ⟨_, rfl⟩
    obtain ⟨sb, rfl⟩ : ∃ x, x = b := ⟨_, rfl⟩
    have d1 : ¬ nb = rb := by simp [hD]
    have d2 : ¬ rb = nb := by simp [hD]
    have d3 : ¬ nb = db := by simp [hD]
    have d4 : ¬ db = nb := by simp [hD]
    have d5 : ¬ rb = db := by simp [hD]
    have d6 : ¬ db = rb := by simp [hD]
    refine Ab.SW.le (St.le_pick [(nb, .svs [Str dt, SN, I64 0, I64 idx, SN]), (rb, .svs [Str ⟨#[]⟩, SN, I64 0, I64 0, SN]), (db, .svs (dC ⟨df, dl, dt, dr⟩))] ?_ ?_) ?_
    · repeat' (first | exact (fun x hx => (List.not_mem_nil hx).elim) | refine List.forall_mem_cons.2 ⟨?_, ?_⟩ | exact List.mem_cons_self | apply List.mem_cons_of_mem)
    · simp [fresh_cons, fresh_nil, hD]
    clear hD
    obtain ⟨I, hI⟩ : ∃ I : Nat → St → Prop, ∀ k S, I k S ↔ (∃ (i : Nat) (pre : List (Int × Int)) (h : Heap), k = sa.length - i ∧ i ≤ sa.length ∧ pre.length = i ∧ O = folR ⟨df, dl, dt, dr⟩ pre (folI ⟨df, dl, dt, dr⟩ (sa.drop i)) ∧ ((i = 0 ∧ h = [(nb, .svs [Str dt, SN, I64 0, I64 idx, SN]), (rb, .svs [Str ⟨#[]⟩, SN, I64 0, I64 0, SN]), (db, .svs (dC ⟨df, dl, dt, dr⟩))]) ∨ (0 < i ∧ ∃ g1 g2, fresh [(nb, .svs []), (rb, .svs []), (db, .svs [])] g1 ∧ fresh [(g1, .svs []), (nb, .svs []), (rb, .svs []), (db, .svs [])] g2 ∧ h = [(g1, .ints .i64 (pre.map (·.2))), (g2, .ints .i64 (pre.map (·.1))), (nb, .svs [Str dt, .os g1 0 i 1, I64 0, I64 idx, .os g2 0 i 1]), (rb, .svs [Str ⟨#[]⟩, SN, I64 0, I64 0, SN]), (db, .svs (dC ⟨df, dl, dt, dr⟩))])) ∧ S = ⟨[(1, I64 idx), (5, .op db 0), (6, .op rb 0), (7, SB false), (8, .op nb 0), (24, IL sa), (25, I64 sa.length), (26, I64 i)], h⟩) := ⟨fun k S => _, fun _ _ => Iff.rfl⟩
    refine SW.loop' I (sa.length) ((hI _ _).2 ⟨0, [], _, rfl, Nat.zero_le _, rfl, (by rw [hO, List.drop_zero]; cases folI ⟨df, dl, dt, dr⟩ sa <;> rfl), .inl ⟨rfl, rfl⟩, rfl⟩) (by repeat' (first | exact rfl | exact trivial | exact int_eq (by omega) | exact int_eq (by (rw [i64_wrap] <;> omega)) | constructor)) ?_
    intro k S hIn
    obtain ⟨i, pre, h, rfl, hi, hpl, hC, hB, rfl⟩ := (hI _ _).1 hIn
    clear hIn
    have ie : ((i : Nat) : Int).toNat = i := Int.toNat_natCast _
    have i0 : (0 : Int) ≤ ((i : Nat) : Int) := by omega
    clear hO
    by_cases hlt : i < sa.length
    · have hli : ((i : Nat) : Int) < (((sa.length) : Nat) : Int) := by omega
      have w1 : IntKind.i64.wrap ((i : Int) + 1) = ((i + 1 : Nat) : Int) := by rw [i64_wrap (by omega) (by omega)]; omega
      rw [hstep i hlt] at hC
      have fi : iF sa i = [I64 (sa.getD i 0)] := rfl
      have c := cd (sa.getD i 0)
      have ha := hat (sa.getD i 0)
      generalize sa.getD i 0 = x at *
      have hnn : ¬ atI x 0 dl < 0 → ∃ p : Nat, atI x 0 dl = (p : Int) ∧ p < dl.length := fun h => ⟨(atI x 0 dl).toNat, by omega, (ha h).1⟩
      generalize atI x 0 dl = q at *
      have ba : (i + 1) * 8 ≤ 140737488355328 := by omega
      by_cases hq : q < 0
      · rw [if_pos hq] at hC
        have hC2 : O = none := hC
        rw [hC2] at hX
        simp only at hX
        subst hX
        rcases hB with ⟨hi0, rfl⟩ | ⟨hi0, g1, g2, u1, u2, rfl⟩
        · have hD := And.intro (And.intro (eq_false d1) (eq_false d2)) (And.intro (And.intro (eq_false d3) (eq_false d4)) (And.intro (eq_false d5) (eq_false d6)))
          repeat' first | (refine SW.seq_k fun K hK => ?_) | (refine SW.block ?_) | ((first | refine SW.region ?_ | refine SW.cond ?_ | refine SW.skip ?_ | refine SW.ret ?_ | refine Call.of_pure (c) ?_); try simp only [go_sem, hD, hli, ie, i0, w1, fi, hq, true_implies]) | ((first | apply hK | (clear hK K; apply hK) | (clear hK K; clear hK K; apply hK)); clear hK K)
          apply ret_cell (i := 6) (n := 5); exact rfl; (simp only [go_sem, hD]; try rfl); (first | exact Nat.le_refl _ | decide); simp only [resL_tmp, resL_cellE, resC_ok, resL_nil, tupOf, getN, go_sem, hD]
        · simp only [fresh_cons, fresh_nil, and_true, ne_eq, neF] at u1 u2
          have hD := And.intro u1 (And.intro u2 (And.intro (And.intro (eq_false d1) (eq_false d2)) (And.intro (And.intro (eq_false d3) (eq_false d4)) (And.intro (eq_false d5) (eq_false d6)))))
          repeat' first | (refine SW.seq_k fun K hK => ?_) | (refine SW.block ?_) | ((first | refine SW.region ?_ | refine SW.cond ?_ | refine SW.skip ?_ | refine SW.ret ?_ | refine Call.of_pure (c) ?_); try simp only [go_sem, hD, hli, ie, i0, w1, fi, hq, true_implies]) | ((first | apply hK | (clear hK K; apply hK) | (clear hK K; clear hK K; apply hK)); clear hK K)
          apply ret_cell (i := 6) (n := 5); exact rfl; (simp only [go_sem, hD]; try rfl); (first | exact Nat.le_refl _ | decide); simp only [resL_tmp, resL_cellE, resC_ok, resL_nil, tupOf, getN, go_sem, hD]
      · rw [if_neg hq] at hC
        obtain ⟨p, rfl, hp⟩ := hnn hq
        have pe : ((p : Nat) : Int).toNat = p := Int.toNat_natCast _
        have p0 : (0 : Int) ≤ ((p : Nat) : Int) := by omega
        have pl : ((p : Nat) : Int) < ((dr.length : Nat) : Int) := by omega
        have fr : iF dr p = [I64 (dr.getD p 0)] := rfl
        rw [pe] at hC
        have hC2 : O = folR ⟨df, dl, dt, dr⟩ (pre ++ [((p : Int), dr.getD p 0)]) (folI ⟨df, dl, dt, dr⟩ (sa.drop (i + 1))) := by
          rw [hC]
          cases folI ⟨df, dl, dt, dr⟩ (sa.drop (i + 1)) with
          | none => rfl
          | some q => simp [folR]
        clear hC
        generalize dr.getD p 0 = y at *
        have hm1 : (pre ++ [((p : Int), y)]).map (·.1) = pre.map (·.1) ++ [(p : Int)] := by rw [List.map_append]; rfl
        have hm2 : (pre ++ [((p : Int), y)]).map (·.2) = pre.map (·.2) ++ [y] := by rw [List.map_append]; rfl
        have hl2 : (pre ++ [((p : Int), y)]).length = i + 1 := by rw [List.length_append, hpl]; rfl
        rcases hB with ⟨hi0, rfl⟩ | ⟨hi0, g1, g2, u1, u2, rfl⟩
        · subst hi0
          have hpre : pre = [] := List.eq_nil_of_length_eq_zero hpl
          subst hpre
          have hD := And.intro (And.intro (eq_false d1) (eq_false d2)) (And.intro (And.intro (eq_false d3) (eq_false d4)) (And.intro (eq_false d5) (eq_false d6)))
          repeat' first | (with_reducible refine And.intro (by omega) ?_) | (refine SW.seq_k fun K hK => ?_) | (refine SW.block ?_) | ((first | refine SW.region ?_ | refine SW.regionZ (id := 11) (Checked.mixed Tryz.checked) ((.one 0 [0, 1, 8, 9, 10] (.one 1 [1, 8, 9, 10] (.one 2 [2, 3, 5, 6, 7, 8, 9, 10] (.one 3 [3, 5, 6, 7, 8, 9, 10] (.one 4 [4, 5, 6, 7, 8, 9, 10] (.one 5 [5, 6, 7, 8, 9, 10] (.one 6 [6, 7, 8, 9, 10] (.alt 7 (.alt 8 (.one 9 [9, 10] (.alt 10 .done .nil)) .nil) .nil)))))))) : OZ) (by kernel_rfl) ?_ | refine SW.cond ?_ | refine SW.skip ?_ | refine Call.of_pure (c) ?_ | (refine allF_i fun b hb => ?_; replace hD := And.intro hb hD; clear hb; try simp only [fresh_cons, fresh_nil, and_true, ne_eq, neF] at hD) | simp only [appK, appOsK]); try simp only [go_sem, hD, hli, ie, i0, w1, fi, hq, pe, p0, pl, fr, ba, true_implies]) | (refine And.intro (by omega) ?_) | (refine ifI (fun hc => ?_) (fun hc => ?_) <;> first | (exfalso; omega) | skip) | ((first | apply hK | (clear hK K; apply hK) | (clear hK K; clear hK K; apply hK)); clear hK K)
          all_goals
            obtain ⟨c1, rfl⟩ : ∃ x, x = b := ⟨_, rfl⟩
            obtain ⟨c2, rfl⟩ : ∃ x, x = b := ⟨_, rfl⟩
            obtain ⟨c3, rfl⟩ : ∃ x, x = b := ⟨_, rfl⟩
            refine Rnd.le (St.le_pick _ ?_ ?_) (Rnd.sub (sa.length - (0 + 1)) (by omega) ((hI _ _).2 ⟨0 + 1, [((p : Int), y)], [(c1, .ints .i64 [y]), (c3, .ints .i64 [(p : Int)]), (nb, .svs [Str dt, .os c1 0 1 1, I64 0, I64 idx, .os c3 0 1 1]), (rb, .svs [Str ⟨#[]⟩, SN, I64 0, I64 0, SN]), (db, .svs (dC ⟨df, dl, dt, dr⟩))], rfl, by omega, rfl, hC2, .inr ⟨by omega, c1, c3, by simp [fresh_cons, fresh_nil, hD], by simp [fresh_cons, fresh_nil, hD], rfl⟩, rfl⟩) (by repeat' (first | exact rfl | exact trivial | exact int_eq (by omega) | exact int_eq (by (rw [i64_wrap] <;> omega)) | constructor)))
            · repeat' (first | exact (fun x hx => (List.not_mem_nil hx).elim) | refine List.forall_mem_cons.2 ⟨?_, ?_⟩ | exact List.mem_cons_self | apply List.mem_cons_of_mem)
            · simp [fresh_cons, fresh_nil, hD]
        · have hs1 : (pre.map (·.2)).length = i := by rw [List.length_map, hpl]
          have hs2 : (pre.map (·.1)).length = i := by rw [List.length_map, hpl]
          simp only [fresh_cons, fresh_nil, and_true, ne_eq, neF] at u1 u2
          have hD := And.intro u1 (And.intro u2 (And.intro (And.intro (eq_false d1) (eq_false d2)) (And.intro (And.intro (eq_false d3) (eq_false d4)) (And.intro (eq_false d5) (eq_false d6)))))
          repeat' first | (with_reducible refine And.intro (by omega) ?_) | (refine SW.seq_k fun K hK => ?_) | (refine SW.block ?_) | ((first | refine SW.region ?_ | refine SW.regionZ (id := 11) (Checked.mixed Tryz.checked) ((.one 0 [0, 1, 8, 9, 10] (.one 1 [1, 8, 9, 10] (.one 2 [2, 3, 5, 6, 7, 8, 9, 10] (.one 3 [3, 5, 6, 7, 8, 9, 10] (.one 4 [4, 5, 6, 7, 8, 9, 10] (.one 5 [5, 6, 7, 8, 9, 10] (.one 6 [6, 7, 8, 9, 10] (.alt 7 (.alt 8 (.one 9 [9, 10] (.alt 10 .done .nil)) .nil) .nil)))))))) : OZ) (by kernel_rfl) ?_ | refine SW.cond ?_ | refine SW.skip ?_ | refine Call.of_pure (c) ?_ | (refine allF_i fun b hb => ?_; replace hD := And.intro hb hD; clear hb; try simp only [fresh_cons, fresh_nil, and_true, ne_eq, neF] at hD) | simp only [appK, appOsK]); try simp only [go_sem, hD, hli, ie, i0, w1, fi, hq, pe, p0, pl, fr, ba, hs1, hs2, true_implies]) | ((first | apply hK | (clear hK K; apply hK) | (clear hK K; clear hK K; apply hK)); clear hK K)
          all_goals
            obtain ⟨c1, rfl⟩ : ∃ x, x = b := ⟨_, rfl⟩
            obtain ⟨c2, rfl⟩ : ∃ x, x = b := ⟨_, rfl⟩
            obtain ⟨c3, rfl⟩ : ∃ x, x = b := ⟨_, rfl⟩
            refine Rnd.le (St.le_pick _ ?_ ?_) (Rnd.sub (sa.length - (i + 1)) (by omega) ((hI _ _).2 ⟨i + 1, pre ++ [((p : Int), y)], [(c1, .ints .i64 (pre.map (·.2) ++ [y])), (c3, .ints .i64 (pre.map (·.1) ++ [(p : Int)])), (nb, .svs [Str dt, .os c1 0 (i + 1) 1, I64 0, I64 idx, .os c3 0 (i + 1) 1]), (rb, .svs [Str ⟨#[]⟩, SN, I64 0, I64 0, SN]), (db, .svs (dC ⟨df, dl, dt, dr⟩))], rfl, by omega, hl2, hC2, .inr ⟨by omega, c1, c3, by simp [fresh_cons, fresh_nil, hD], by simp [fresh_cons, fresh_nil, hD], by rw [hm1, hm2]⟩, rfl⟩) (by repeat' (first | exact rfl | exact trivial | exact int_eq (by omega) | exact int_eq (by (rw [i64_wrap] <;> omega)) | constructor)))
            · repeat' (first | exact (fun x hx => (List.not_mem_nil hx).elim) | refine List.forall_mem_cons.2 ⟨?_, ?_⟩ | exact List.mem_cons_self | apply List.mem_cons_of_mem)
            · simp [fresh_cons, fresh_nil, hD]
    · have hli : ¬ ((i : Nat) : Int) < (((sa.length) : Nat) : Int) := by omega
      obtain rfl : i = sa.length := by omega
      rw [List.drop_length] at hC
      have hC2 : O = some pre := by rw [hC]; simp [folR, folI]
      rw [hC2] at hX
      simp only at hX
      subst hX
      have l1 : (pre.map (·.1)).length = sa.length := by rw [List.length_map, hpl]
      have l2 : (pre.map (·.2)).length = sa.length := by rw [List.length_map, hpl]
      generalize pre.map (·.1) = P at *
      generalize pre.map (·.2) = A at *
      apply Ab.SW.le (S' := ⟨[(1, I64 idx), (5, .op db 0), (6, .op rb 0), (7, SB false), (8, .op nb 0), (24, IL sa), (25, I64 sa.length), (26, I64 sa.length)], [(nb, .svs [Str dt, IL A, I64 0, I64 idx, IL P]), (rb, .svs [Str ⟨#[]⟩, SN, I64 0, I64 0, SN]), (db, .svs (dC ⟨df, dl, dt, dr⟩))]⟩)
      · rcases hB with ⟨hi0, rfl⟩ | ⟨hi0, g1, g2, u1, u2, rfl⟩
        · have e1 : P = [] := List.eq_nil_of_length_eq_zero (by omega)
          have e2 : A = [] := List.eq_nil_of_length_eq_zero (by omega)
          subst e1 e2
          have s1 := St.le_nilC (t := [(1, I64 idx), (5, .op db 0), (6, .op rb 0), (7, SB false), (8, .op nb 0), (24, IL sa), (25, I64 sa.length), (26, I64 sa.length)]) (h := [(nb, .svs [Str dt, SN, I64 0, I64 idx, SN]), (rb, .svs [Str ⟨#[]⟩, SN, I64 0, I64 0, SN]), (db, .svs (dC ⟨df, dl, dt, dr⟩))]) (c := nb) (j := 1) (sz := 1) (f := iF []) (by rw [find_cons, if_pos rfl]) (by show 1 < 5; omega) rfl
          rw [upd_cons, if_pos rfl] at s1
          have s2 := St.le_nilC (t := [(1, I64 idx), (5, .op db 0), (6, .op rb 0), (7, SB false), (8, .op nb 0), (24, IL sa), (25, I64 sa.length), (26, I64 sa.length)]) (h := [(nb, .svs [Str dt, IL [], I64 0, I64 idx, SN]), (rb, .svs [Str ⟨#[]⟩, SN, I64 0, I64 0, SN]), (db, .svs (dC ⟨df, dl, dt, dr⟩))]) (c := nb) (j := 4) (sz := 1) (f := iF []) (by rw [find_cons, if_pos rfl]) (by show 4 < 5; omega) rfl
          rw [upd_cons, if_pos rfl] at s2
          exact s1.trans s2
        · simp only [fresh_cons, fresh_nil, and_true, ne_eq] at u1 u2
          obtain ⟨⟨a1, a2⟩, ⟨a3, a4⟩, a5, a6⟩ := u1
          obtain ⟨⟨b1, b2⟩, ⟨b3, b4⟩, ⟨b5, b6⟩, b7, b8⟩ := u2
          have s1 := St.le_freezeC (t := [(1, I64 idx), (5, .op db 0), (6, .op rb 0), (7, SB false), (8, .op nb 0), (24, IL sa), (25, I64 sa.length), (26, I64 sa.length)]) (h := [(g1, .ints .i64 A), (g2, .ints .i64 P), (nb, .svs [Str dt, .os g1 0 sa.length 1, I64 0, I64 idx, .os g2 0 sa.length 1]), (rb, .svs [Str ⟨#[]⟩, SN, I64 0, I64 0, SN]), (db, .svs (dC ⟨df, dl, dt, dr⟩))]) (c := nb) (j := 1) (b := g1) (off := 0) (len := sa.length) (sz := 1) (by rw [find_cons, if_neg a2, find_cons, if_neg b4, find_cons, if_pos rfl]) a1 (by show 1 < 5; omega) rfl (by rw [find_cons, if_pos rfl]) (by show 0 + sa.length * 1 ≤ A.length; omega) (iF A) (fun p _ => ints_get A p)
          rw [del_cons, if_pos rfl, upd_cons, if_neg b4, upd_cons, if_pos rfl] at s1
          have s2 := St.le_freezeC (t := [(1, I64 idx), (5, .op db 0), (6, .op rb 0), (7, SB false), (8, .op nb 0), (24, IL sa), (25, I64 sa.length), (26, I64 sa.length)]) (h := [(g2, .ints .i64 P), (nb, .svs [Str dt, .fl sa.length 1 (iF A), I64 0, I64 idx, .os g2 0 sa.length 1]), (rb, .svs [Str ⟨#[]⟩, SN, I64 0, I64 0, SN]), (db, .svs (dC ⟨df, dl, dt, dr⟩))]) (c := nb) (j := 4) (b := g2) (off := 0) (len := sa.length) (sz := 1) (by rw [find_cons, if_neg b4, find_cons, if_pos rfl]) b3 (by show 4 < 5; omega) rfl (by rw [find_cons, if_pos rfl]) (by show 0 + sa.length * 1 ≤ P.length; omega) (iF P) (fun p _ => ints_get P p)
          rw [del_cons, if_pos rfl, upd_cons, if_pos rfl] at s2
          unfold IL
          rw [l1, l2]
          exact s1.trans s2
      · have hD := And.intro (And.intro (eq_false d1) (eq_false d2)) (And.intro (And.intro (eq_false d3) (eq_false d4)) (And.intro (eq_false d5) (eq_false d6)))
        repeat' first | (refine SW.seq_k fun K hK => ?_) | ((first | refine SW.region ?_ | refine SW.cond ?_ | refine SW.exit ?_ | refine SW.ret ?_); try simp only [go_sem, hD, hli, true_implies]) | ((first | apply hK | (clear hK K; apply hK) | (clear hK K; clear hK K; apply hK)); clear hK K)
        apply ret_cell (i := 6) (n := 5); exact rfl; (simp only [go_sem, hD]; try rfl); (first | exact Nat.le_refl _ | decide); simp only [resL_tmp, resL_cellE, resC_ok, resL_nil, tupOf, getN, go_sem, hD]
  · rw [if_neg hf] at hX
    subst hX
    have ee : (st.toList == df.toList) = false := by rw [Bool.eq_false_iff]; exact fun h => hf (barr_eq.1 h)
    refine Call.enter' (N := 57) (rs := [.cell 6 90, .tmp 7]) Tryz.func69 rfl rfl rfl (by decide) rfl ?_; simp only [argT]; have hD : (0 : Nat) = 0 := rfl
    repeat' first | (refine SW.seq_k fun K hK => ?_) | ((first | refine SW.region ?_ | refine SW.cond ?_ | refine SW.ret ?_ | (refine allF_i fun b hb => ?_; replace hD := And.intro hb hD; clear hb; try simp only [fresh_cons, fresh_nil, and_true, ne_eq, neF] at hD)); try simp only [go_sem, hD, ee, hps, true_implies]) | ((first | apply hK | (clear hK K; apply hK) | (clear hK K; clear hK K; apply hK)); clear hK K)
    apply ret_cell (i := 6) (n := 5); exact rfl; (simp only [go_sem, hD]; try rfl); (first | exact Nat.le_refl _ | decide); simp only [resL_tmp, resL_cellE, resC_ok, resL_nil, tupOf, getN, go_sem, hD]
end Go.Proofs.YtblfodnajpamfaaGreatDoor
/- Plain: the names of states are all different. -/
namespace Go.Ab.A15
theorem split32 : ∀ {t u r s : List UInt8}, (32 : UInt8) ∉ t → (32 : UInt8) ∉ u → (r = [] ∨ ∃ r', r = 32 :: r') → (s = [] ∨ ∃ s', s = 32 :: s') → t ++ r = u ++ s → t = u ∧ r = s
  | [], [], r, s, _, _, _, _, h => ⟨rfl, h⟩
  | [], y :: u, r, s, _, hu, hr, _, h => by
    rcases hr with rfl | ⟨r', rfl⟩
    · simp at h
    · simp only [List.nil_append, List.cons_append, List.cons.injEq] at h
      exact absurd (by rw [h.1]; exact List.mem_cons_self) hu
  | x :: t, [], r, s, ht, _, _, hs, h => by
    rcases hs with rfl | ⟨s', rfl⟩
    · simp at h
    · simp only [List.nil_append, List.cons_append, List.cons.injEq] at h
      exact absurd (by rw [← h.1]; exact List.mem_cons_self) ht
  | x :: t, y :: u, r, s, ht, hu, hr, hs, h => by
    simp only [List.cons_append, List.cons.injEq] at h
    obtain ⟨h1, h2⟩ := split32 (fun hm => ht (List.mem_cons_of_mem _ hm)) (fun hm => hu (List.mem_cons_of_mem _ hm)) hr hs h.2
    exact ⟨by rw [h.1, h1], h2⟩
def tailL (dg : Int → List UInt8) (a : List Int) : List UInt8 := a.flatMap fun x => 32 :: dg x
theorem tail_32 (dg : Int → List UInt8) : ∀ a, tailL dg a = [] ∨ ∃ r, tailL dg a = 32 :: r
  | [] => .inl rfl
  | x :: a => .inr ⟨dg x ++ tailL dg a, rfl⟩
theorem tail_inj {dg : Int → List UInt8} (h1 : ∀ x, 0 ≤ x → x < 16 → (32 : UInt8) ∉ dg x) (h2 : ∀ x y, 0 ≤ x → x < 16 → 0 ≤ y → y < 16 → dg x = dg y → x = y) : ∀ {a b : List Int}, In16 a → In16 b → tailL dg a = tailL dg b → a = b
  | [], [], _, _, _ => rfl
  | [], y :: b, _, _, h => by simp [tailL] at h
  | x :: a, [], _, _, h => by simp [tailL] at h
  | x :: a, y :: b, ha, hb, h => by
    have x1 := ha x List.mem_cons_self
    have y1 := hb y List.mem_cons_self
    have h' : dg x ++ tailL dg a = dg y ++ tailL dg b := by
      have : 32 :: (dg x ++ tailL dg a) = 32 :: (dg y ++ tailL dg b) := h
      simpa using this
    obtain ⟨e1, e2⟩ := split32 (h1 x x1.1 x1.2) (h1 y y1.1 y1.2) (tail_32 dg a) (tail_32 dg b) h'
    rw [h2 x y x1.1 x1.2 y1.1 y1.2 e1, tail_inj h1 h2 (fun z hz => ha z (List.mem_cons_of_mem _ hz)) (fun z hz => hb z (List.mem_cons_of_mem _ hz)) e2]
theorem name_inj {dg : Int → List UInt8} (h1 : ∀ x, 0 ≤ x → x < 16 → (32 : UInt8) ∉ dg x) (h2 : ∀ x y, 0 ≤ x → x < 16 → 0 ≤ y → y < 16 → dg x = dg y → x = y) {t u : List UInt8} {a b : List Int} (ht : (32 : UInt8) ∉ t) (hu : (32 : UInt8) ∉ u) (ha : In16 a) (hb : In16 b)
    (h : t ++ tailL dg a = u ++ tailL dg b) : t = u ∧ a = b := by
  obtain ⟨e1, e2⟩ := split32 ht hu (tail_32 dg a) (tail_32 dg b) h
  exact ⟨e1, tail_inj h1 h2 ha hb e2⟩
end Go.Ab.A15
/- Names of states as texts; the map of names. -/
namespace Go.Ab.A15
open Go Go.Ab Go.Ab.A34
/-- The name of a table with attributes. -/
def nameS (t : ByteArray) : List Int → ByteArray
  | [] => t
  | x :: r => nameS (t ++ (⟨#[32]⟩ ++ itoaS x)) r
theorem nameS_step {t : ByteArray} {l : List Int} {i : Nat} (h : i < l.length) : nameS t (l.drop i) = nameS (t ++ (⟨#[32]⟩ ++ itoaS (l.getD i 0))) (l.drop (i + 1)) := by
  have g : l.getD i 0 = l[i] := by simp [List.getD_eq_getElem?_getD, h]
  rw [List.drop_eq_getElem_cons h, g]
  rfl
def dgL (x : Int) : List UInt8 := (itoaS x).data.toList
theorem app_list (a b : ByteArray) : (a ++ b).data.toList = a.data.toList ++ b.data.toList := by
  rw [ByteArray.data_append, Array.toList_append]
theorem nameS_list : ∀ (a : List Int) (t : ByteArray), (nameS t a).data.toList = t.data.toList ++ tailL dgL a
  | [], t => by simp [nameS, tailL]
  | x :: r, t => by
    rw [nameS, nameS_list r, app_list, app_list]
    show t.data.toList ++ ([32] ++ dgL x) ++ tailL dgL r = t.data.toList ++ (32 :: dgL x ++ tailL dgL r)
    simp
theorem dg_32 : ∀ x : Fin 16, (32 : UInt8) ∉ dgL (x.val : Int) := by decide +kernel
theorem dg_inj : ∀ x y : Fin 16, dgL (x.val : Int) = dgL (y.val : Int) → x.val = y.val := by decide +kernel
theorem dg_32' (x : Int) (h0 : 0 ≤ x) (h : x < 16) : (32 : UInt8) ∉ dgL x := by
  have := dg_32 ⟨x.toNat, by omega⟩
  rwa [show ((x.toNat : Nat) : Int) = x by omega] at this
theorem dg_inj' (x y : Int) (h0 : 0 ≤ x) (h : x < 16) (h0' : 0 ≤ y) (h' : y < 16) (e : dgL x = dgL y) : x = y := by
  have := dg_inj ⟨x.toNat, by omega⟩ ⟨y.toNat, by omega⟩
  rw [show ((x.toNat : Nat) : Int) = x by omega, show ((y.toNat : Nat) : Int) = y by omega] at this
  have := this e
  simp only at this
  omega
/-- A name has no blank. -/
theorem name_32 {l : List UInt8} (h : nameB l = true) : (32 : UInt8) ∉ l := by
  intro hm
  cases l with
  | nil => cases hm
  | cons c r =>
    unfold nameB at h
    simp only [Bool.and_eq_true, List.all_eq_true] at h
    have := h.2 _ hm
    revert this
    decide
theorem nameS_inj {t u : ByteArray} {a b : List Int} (ht : nameB t.data.toList = true) (hu : nameB u.data.toList = true) (ha : In16 a) (hb : In16 b) (h : nameS t a = nameS u b) : t = u ∧ a = b := by
  have e := congrArg (fun x : ByteArray => x.data.toList) h
  simp only [nameS_list] at e
  obtain ⟨e1, e2⟩ := name_inj dg_32' dg_inj' (name_32 ht) (name_32 hu) ha hb e
  exact ⟨ba_ext e1, e2⟩
/-- The map of the names of states. -/
def mapF : Nat → List Sn → List (Value × Value)
  | _, [] => []
  | i, s :: l => (.string (nameS s.t s.a), .int .i64 i) :: mapF (i + 1) l
theorem mapF_app : ∀ (l : List Sn) (i : Nat) (s : Sn), mapF i (l ++ [s]) = mapF i l ++ [(.string (nameS s.t s.a), .int .i64 ((i + l.length : Nat) : Int))]
  | [], i, s => rfl
  | x :: l, i, s => by
    rw [List.cons_append, mapF, mapF_app l, mapF, List.cons_append, List.length_cons]
    rw [show i + 1 + l.length = i + (l.length + 1) by omega]
theorem same_s (a b : ByteArray) : sameC .s (.string a) (.string b) = some (decide (a = b)) := by
  show some (a.data == b.data) = some (decide (a = b))
  congr 1
  rw [Bool.eq_iff_iff, beq_iff_eq, decide_eq_true_iff]
  exact ⟨fun h => ba_ext (by rw [h]), fun h => by rw [h]⟩
def mres (z : Int) : Option (Nat × Value) := if z < 0 then none else some (z.toNat, .int .i64 z)
/-- A state, found by its name. -/
theorem mfI_find {t : ByteArray} {a : List Int} (ht : nameB t.data.toList = true) (ha : In16 a) : ∀ (l : List Sn) (i : Nat), (∀ s ∈ l, nameB s.t.data.toList = true ∧ In16 s.a) → mfI .s (.string (nameS t a)) (mapF i l) i = some (mres (findS t a i l))
  | [], i, _ => by simp [mapF, mfI, findS, mres]
  | s :: l, i, h => by
    obtain ⟨h1, h2⟩ := h s List.mem_cons_self
    rw [mapF, mfI, same_s]
    unfold findS
    by_cases e : s.t = t ∧ s.a = a
    · rw [if_pos e, decide_eq_true (by rw [e.1, e.2])]
      unfold mres
      rw [if_neg (by omega)]
      simp
    · rw [if_neg e, decide_eq_false (fun e2 => e (by obtain ⟨g1, g2⟩ := nameS_inj ht h1 ha h2 e2; exact ⟨g1.symm, g2.symm⟩))]
      exact mfI_find ht ha l (i + 1) (fun s hs => h s (List.mem_cons_of_mem _ hs))
end Go.Ab.A15
/- Contracts: the step from state to state of the reference; names of states. -/
namespace Go.Proofs.YtblfodnajpamfaaGreatDoor
open Go Go.Ab Go.Ab.A34 Go.Ab.A15
variable [Gl] [Tabs]

set_option maxHeartbeats 4000000 in
set_option maxRecDepth 20000 in
theorem next_r (st : ByteArray) (sa : List Int) (n : Nat) (hn : n ≤ 1000000) (d : Dp) (hlr : d.l.length = d.r.length) (hdl : d.l.length ≤ 1000000) (hsa : sa.length ≤ 1000000) :
    PCall Tryz.prog 70 [DV d, .agg [Str st, IL sa, I64 n]] (nexV st sa n d) := by
  have cd := fun x => at_r x d.l d.l.length (by omega) rfl (iF d.l) (fun i hi => rfl)
  obtain ⟨X, hX⟩ : ∃ X, X = nexV st sa n d := ⟨_, rfl⟩
  rw [← hX]
  unfold nexV at hX
  obtain ⟨O, hO⟩ : ∃ O, O = folI d sa := ⟨_, rfl⟩
  rw [← hO] at hX
  have hstep := fun i (h : i < sa.length) => folI_drop (d := d) h
  have hat := fun x => atI_lt (x := x) (l := d.l)
  have wn : IntKind.i64.wrap ((n : Int) + 1) = (n : Int) + 1 := by rw [i64_wrap (by omega) (by omega)]
  obtain ⟨df, dl, dt, dr⟩ := d
  simp only at hX hlr hdl hat cd
  by_cases hf : st = df
  · rw [if_pos hf] at hX
    have ee : (df.toList == st.toList) = true := barr_eq.2 hf.symm
    refine Call.enter' (N := 50) (rs := [.cell 4 96, .tmp 5]) Tryz.func70 rfl rfl rfl (by decide) rfl ?_; simp only [argT]; have hD : (0 : Nat) = 0 := rfl
    repeat' first | (refine SW.seq_k fun K hK => ?_) | (refine SW.block ?_) | ((first | refine SW.region ?_ | refine SW.cond ?_ | refine SW.skip ?_ | (refine allF_i fun b hb => ?_; replace hD := And.intro hb hD; clear hb; try simp only [fresh_cons, fresh_nil, and_true, ne_eq, neF] at hD)); try simp only [go_sem, hD, ee, wn, true_implies]) | ((first | apply hK | (clear hK K; apply hK) | (clear hK K; clear hK K; apply hK)); clear hK K)
    obtain ⟨nb, rfl⟩ : ∃ x, x = b := ⟨_, rfl⟩
    obtain ⟨rb, rfl⟩ : ∃ x, x = b := ⟨_, rfl⟩
    obtain ⟨sb, rfl⟩ : ∃ x, x = b := ⟨_, rfl⟩
    obtain ⟨db, rfl⟩ : ∃ x, x = b := ⟨_, rfl⟩
    have d1 : ¬ nb = rb := by simp [hD]
    have d2 : ¬ rb = nb := by simp [hD]
    have d3 : ¬ nb = db := by simp [hD]
    have d4 : ¬ db = nb := by simp [hD]
    have d5 : ¬ rb = db := by simp [hD]
    have d6 : ¬ db = rb := by simp [hD]
    have d7 : ¬ nb = sb := by simp [hD]
    have d8 : ¬ sb = nb := by simp [hD]
    have d9 : ¬ rb = sb := by simp [hD]
    have da : ¬ sb = rb := by simp [hD]
    have de : ¬ db = sb := by simp [hD]
    have dg : ¬ sb = db := by simp [hD]
    have hE := And.intro (And.intro (eq_false d1) (eq_false d2)) (And.intro (And.intro (eq_false d3) (eq_false d4)) (And.intro (And.intro (eq_false d5) (eq_false d6)) (And.intro (And.intro (eq_false d7) (eq_false d8)) (And.intro (And.intro (eq_false d9) (eq_false da)) (And.intro (eq_false de) (eq_false dg))))))
    refine Ab.SW.le (St.le_pick [(nb, .svs [Str dt, SN, I64 ((n : Int) + 1)]), (rb, .svs [Str ⟨#[]⟩, SN, I64 0]), (sb, .svs [Str st, IL sa, I64 n]), (db, .svs (dC ⟨df, dl, dt, dr⟩))] ?_ ?_) ?_
    · repeat' (first | exact (fun x hx => (List.not_mem_nil hx).elim) | refine List.forall_mem_cons.2 ⟨?_, ?_⟩ | exact List.mem_cons_self | apply List.mem_cons_of_mem)
    · simp [fresh_cons, fresh_nil, hD]
    clear hD
    obtain ⟨I, hI⟩ : ∃ I : Nat → St → Prop, ∀ k S, I k S ↔ (∃ (i : Nat) (pre : List (Int × Int)) (h : Heap), k = sa.length - i ∧ i ≤ sa.length ∧ pre.length = i ∧ O = folR ⟨df, dl, dt, dr⟩ pre (folI ⟨df, dl, dt, dr⟩ (sa.drop i)) ∧ ((i = 0 ∧ h = [(nb, .svs [Str dt, SN, I64 ((n : Int) + 1)]), (rb, .svs [Str ⟨#[]⟩, SN, I64 0]), (sb, .svs [Str st, IL sa, I64 n]), (db, .svs (dC ⟨df, dl, dt, dr⟩))]) ∨ (0 < i ∧ ∃ g1, fresh [(nb, .svs []), (rb, .svs []), (sb, .svs []), (db, .svs [])] g1 ∧ h = [(g1, .ints .i64 (pre.map (·.2))), (nb, .svs [Str dt, .os g1 0 i 1, I64 ((n : Int) + 1)]), (rb, .svs [Str ⟨#[]⟩, SN, I64 0]), (sb, .svs [Str st, IL sa, I64 n]), (db, .svs (dC ⟨df, dl, dt, dr⟩))])) ∧ S = ⟨[(2, .op db 0), (3, .op sb 0), (4, .op rb 0), (5, SB false), (6, .op nb 0), (7, I64 i)], h⟩) := ⟨fun k S => _, fun _ _ => Iff.rfl⟩
    refine SW.loop' I (sa.length) ((hI _ _).2 ⟨0, [], _, rfl, Nat.zero_le _, rfl, (by rw [hO, List.drop_zero]; cases folI ⟨df, dl, dt, dr⟩ sa <;> rfl), .inl ⟨rfl, rfl⟩, rfl⟩) (by repeat' (first | exact rfl | exact trivial | exact int_eq (by omega) | exact int_eq (by (rw [i64_wrap] <;> omega)) | constructor)) ?_
    intro k S hIn
    obtain ⟨i, pre, h, rfl, hi, hpl, hC, hB, rfl⟩ := (hI _ _).1 hIn
    clear hIn
    have ie : ((i : Nat) : Int).toNat = i := Int.toNat_natCast _
    have i0 : (0 : Int) ≤ ((i : Nat) : Int) := by omega
    clear hO
    by_cases hlt : i < sa.length
    · have hli : ((i : Nat) : Int) < (((sa.length) : Nat) : Int) := by omega
      have w1 : IntKind.i64.wrap ((i : Int) + 1) = ((i + 1 : Nat) : Int) := by rw [i64_wrap (by omega) (by omega)]; omega
      rw [hstep i hlt] at hC
      have fi : iF sa i = [I64 (sa.getD i 0)] := rfl
      have c := cd (sa.getD i 0)
      have ha := hat (sa.getD i 0)
      generalize sa.getD i 0 = x at *
      have hnn : ¬ atI x 0 dl < 0 → ∃ p : Nat, atI x 0 dl = (p : Int) ∧ p < dl.length := fun h => ⟨(atI x 0 dl).toNat, by omega, (ha h).1⟩
      generalize atI x 0 dl = q at *
      have ba : (i + 1) * 8 ≤ 140737488355328 := by omega
      by_cases hq : q < 0
      · rw [if_pos hq] at hC
        have hC2 : O = none := hC
        rw [hC2] at hX
        simp only at hX
        subst hX
        rcases hB with ⟨hi0, rfl⟩ | ⟨hi0, g1, u1, rfl⟩
        · have hD := hE
          repeat' first | (refine SW.seq_k fun K hK => ?_) | (refine SW.block ?_) | ((first | refine SW.region ?_ | refine SW.regionZ (id := 7) (Checked.mixed Tryz.checked) ((.one 0 [0, 1, 7, 8] (.one 1 [1, 7, 8] (.one 2 [2, 3, 5, 6, 7, 8] (.one 3 [3, 5, 6, 7, 8] (.one 4 [4, 5, 6, 7, 8] (.one 5 [5, 6, 7, 8] (.one 6 [6, 7, 8] (.one 7 [7, 8] (.one 8 [8] .done))))))))) : OZ) (by kernel_rfl) ?_ | refine SW.cond ?_ | refine SW.skip ?_ | refine SW.ret ?_ | refine ⟨_, c, ?_⟩); try simp only [go_sem, hD, hli, ie, i0, w1, fi, hq, true_implies]) | ((first | apply hK | (clear hK K; apply hK) | (clear hK K; clear hK K; apply hK)); clear hK K)
          apply ret_cell (i := 4) (n := 3); exact rfl; (simp only [go_sem, hD]; try rfl); (first | exact Nat.le_refl _ | decide); simp only [resL_tmp, resL_cellE, resC_ok, resL_nil, tupOf, getN, go_sem, hD]
        · simp only [fresh_cons, fresh_nil, and_true, ne_eq, neF] at u1
          have hD := And.intro u1 hE
          repeat' first | (refine SW.seq_k fun K hK => ?_) | (refine SW.block ?_) | ((first | refine SW.region ?_ | refine SW.regionZ (id := 7) (Checked.mixed Tryz.checked) ((.one 0 [0, 1, 7, 8] (.one 1 [1, 7, 8] (.one 2 [2, 3, 5, 6, 7, 8] (.one 3 [3, 5, 6, 7, 8] (.one 4 [4, 5, 6, 7, 8] (.one 5 [5, 6, 7, 8] (.one 6 [6, 7, 8] (.one 7 [7, 8] (.one 8 [8] .done))))))))) : OZ) (by kernel_rfl) ?_ | refine SW.cond ?_ | refine SW.skip ?_ | refine SW.ret ?_ | refine ⟨_, c, ?_⟩); try simp only [go_sem, hD, hli, ie, i0, w1, fi, hq, true_implies]) | ((first | apply hK | (clear hK K; apply hK) | (clear hK K; clear hK K; apply hK)); clear hK K)
          apply ret_cell (i := 4) (n := 3); exact rfl; (simp only [go_sem, hD]; try rfl); (first | exact Nat.le_refl _ | decide); simp only [resL_tmp, resL_cellE, resC_ok, resL_nil, tupOf, getN, go_sem, hD]
      · rw [if_neg hq] at hC
        obtain ⟨p, rfl, hp⟩ := hnn hq
        have pe : ((p : Nat) : Int).toNat = p := Int.toNat_natCast _
        have p0 : (0 : Int) ≤ ((p : Nat) : Int) := by omega
        have pl : ((p : Nat) : Int) < ((dr.length : Nat) : Int) := by omega
        have fr : iF dr p = [I64 (dr.getD p 0)] := rfl
        rw [pe] at hC
        have hC2 : O = folR ⟨df, dl, dt, dr⟩ (pre ++ [((p : Int), dr.getD p 0)]) (folI ⟨df, dl, dt, dr⟩ (sa.drop (i + 1))) := by
          rw [hC]
          cases folI ⟨df, dl, dt, dr⟩ (sa.drop (i + 1)) with
          | none => rfl
          | some q => simp [folR]
        clear hC
        generalize dr.getD p 0 = y at *
        have hm2 : (pre ++ [((p : Int), y)]).map (·.2) = pre.map (·.2) ++ [y] := by rw [List.map_append]; rfl
        have hl2 : (pre ++ [((p : Int), y)]).length = i + 1 := by rw [List.length_append, hpl]; rfl
        rcases hB with ⟨hi0, rfl⟩ | ⟨hi0, g1, u1, rfl⟩
        · subst hi0
          have hpre : pre = [] := List.eq_nil_of_length_eq_zero hpl
          subst hpre
          have hD := hE
          repeat' first | (with_reducible refine And.intro (by omega) ?_) | (refine SW.seq_k fun K hK => ?_) | (refine SW.block ?_) | ((first | refine SW.region ?_ | refine SW.regionZ (id := 7) (Checked.mixed Tryz.checked) ((.one 0 [0, 1, 7, 8] (.one 1 [1, 7, 8] (.one 2 [2, 3, 5, 6, 7, 8] (.one 3 [3, 5, 6, 7, 8] (.one 4 [4, 5, 6, 7, 8] (.one 5 [5, 6, 7, 8] (.one 6 [6, 7, 8] (.one 7 [7, 8] (.one 8 [8] .done))))))))) : OZ) (by kernel_rfl) ?_ | refine SW.regionZ (id := 10) (Checked.mixed Tryz.checked) ((.one 0 [0, 1, 8, 9, 10] (.one 1 [1, 8, 9, 10] (.one 2 [2, 3, 5, 6, 7, 8, 9, 10] (.one 3 [3, 5, 6, 7, 8, 9, 10] (.one 4 [4, 5, 6, 7, 8, 9, 10] (.one 5 [5, 6, 7, 8, 9, 10] (.one 6 [6, 7, 8, 9, 10] (.alt 7 (.alt 8 (.one 9 [9, 10] (.alt 10 .done .nil)) .nil) .nil)))))))) : OZ) (by kernel_rfl) ?_ | refine SW.cond ?_ | refine SW.skip ?_ | refine ⟨_, c, ?_⟩ | (refine allF_i fun b hb => ?_; replace hD := And.intro hb hD; clear hb; try simp only [fresh_cons, fresh_nil, and_true, ne_eq, neF] at hD) | simp only [appK, appOsK]); try simp only [go_sem, hD, hli, ie, i0, w1, fi, hq, pe, p0, pl, fr, ba, true_implies]) | (refine And.intro (by omega) ?_) | (refine ifI (fun hc => ?_) (fun hc => ?_) <;> first | (exfalso; omega) | skip) | ((first | apply hK | (clear hK K; apply hK) | (clear hK K; clear hK K; apply hK)); clear hK K)
          all_goals
            obtain ⟨c1, rfl⟩ : ∃ x, x = b := ⟨_, rfl⟩
            refine Rnd.le (St.le_pick _ ?_ ?_) (Rnd.sub (sa.length - (0 + 1)) (by omega) ((hI _ _).2 ⟨0 + 1, [((p : Int), y)], [(c1, .ints .i64 [y]), (nb, .svs [Str dt, .os c1 0 1 1, I64 ((n : Int) + 1)]), (rb, .svs [Str ⟨#[]⟩, SN, I64 0]), (sb, .svs [Str st, IL sa, I64 n]), (db, .svs (dC ⟨df, dl, dt, dr⟩))], rfl, by omega, rfl, hC2, .inr ⟨by omega, c1, by simp [fresh_cons, fresh_nil, hD], rfl⟩, rfl⟩) (by repeat' (first | exact rfl | exact trivial | exact int_eq (by omega) | exact int_eq (by (rw [i64_wrap] <;> omega)) | constructor)))
            · repeat' (first | exact (fun x hx => (List.not_mem_nil hx).elim) | refine List.forall_mem_cons.2 ⟨?_, ?_⟩ | exact List.mem_cons_self | apply List.mem_cons_of_mem)
            · simp [fresh_cons, fresh_nil, hD]
        · have hs1 : (pre.map (·.2)).length = i := by rw [List.length_map, hpl]
          simp only [fresh_cons, fresh_nil, and_true, ne_eq, neF] at u1
          have hD := And.intro u1 hE
          repeat' first | (with_reducible refine And.intro (by omega) ?_) | (refine SW.seq_k fun K hK => ?_) | (refine SW.block ?_) | ((first | refine SW.region ?_ | refine SW.regionZ (id := 7) (Checked.mixed Tryz.checked) ((.one 0 [0, 1, 7, 8] (.one 1 [1, 7, 8] (.one 2 [2, 3, 5, 6, 7, 8] (.one 3 [3, 5, 6, 7, 8] (.one 4 [4, 5, 6, 7, 8] (.one 5 [5, 6, 7, 8] (.one 6 [6, 7, 8] (.one 7 [7, 8] (.one 8 [8] .done))))))))) : OZ) (by kernel_rfl) ?_ | refine SW.regionZ (id := 10) (Checked.mixed Tryz.checked) ((.one 0 [0, 1, 8, 9, 10] (.one 1 [1, 8, 9, 10] (.one 2 [2, 3, 5, 6, 7, 8, 9, 10] (.one 3 [3, 5, 6, 7, 8, 9, 10] (.one 4 [4, 5, 6, 7, 8, 9, 10] (.one 5 [5, 6, 7, 8, 9, 10] (.one 6 [6, 7, 8, 9, 10] (.alt 7 (.alt 8 (.one 9 [9, 10] (.alt 10 .done .nil)) .nil) .nil)))))))) : OZ) (by kernel_rfl) ?_ | refine SW.cond ?_ | refine SW.skip ?_ | refine ⟨_, c, ?_⟩ | (refine allF_i fun b hb => ?_; replace hD := And.intro hb hD; clear hb; try simp only [fresh_cons, fresh_nil, and_true, ne_eq, neF] at hD) | simp only [appK, appOsK]); try simp only [go_sem, hD, hli, ie, i0, w1, fi, hq, pe, p0, pl, fr, ba, hs1, true_implies]) | ((first | apply hK | (clear hK K; apply hK) | (clear hK K; clear hK K; apply hK)); clear hK K)
          all_goals
            obtain ⟨c1, rfl⟩ : ∃ x, x = b := ⟨_, rfl⟩
            refine Rnd.le (St.le_pick _ ?_ ?_) (Rnd.sub (sa.length - (i + 1)) (by omega) ((hI _ _).2 ⟨i + 1, pre ++ [((p : Int), y)], [(c1, .ints .i64 (pre.map (·.2) ++ [y])), (nb, .svs [Str dt, .os c1 0 (i + 1) 1, I64 ((n : Int) + 1)]), (rb, .svs [Str ⟨#[]⟩, SN, I64 0]), (sb, .svs [Str st, IL sa, I64 n]), (db, .svs (dC ⟨df, dl, dt, dr⟩))], rfl, by omega, hl2, hC2, .inr ⟨by omega, c1, by simp [fresh_cons, fresh_nil, hD], by rw [hm2]⟩, rfl⟩) (by repeat' (first | exact rfl | exact trivial | exact int_eq (by omega) | exact int_eq (by (rw [i64_wrap] <;> omega)) | constructor)))
            · repeat' (first | exact (fun x hx => (List.not_mem_nil hx).elim) | refine List.forall_mem_cons.2 ⟨?_, ?_⟩ | exact List.mem_cons_self | apply List.mem_cons_of_mem)
            · simp [fresh_cons, fresh_nil, hD]
    · have hli : ¬ ((i : Nat) : Int) < (((sa.length) : Nat) : Int) := by omega
      obtain rfl : i = sa.length := by omega
      rw [List.drop_length] at hC
      have hC2 : O = some pre := by rw [hC]; simp [folR, folI]
      rw [hC2] at hX
      simp only at hX
      subst hX
      have l2 : (pre.map (·.2)).length = sa.length := by rw [List.length_map, hpl]
      generalize pre.map (·.2) = A at *
      apply Ab.SW.le (S' := ⟨[(2, .op db 0), (3, .op sb 0), (4, .op rb 0), (5, SB false), (6, .op nb 0), (7, I64 sa.length)], [(nb, .svs [Str dt, IL A, I64 ((n : Int) + 1)]), (rb, .svs [Str ⟨#[]⟩, SN, I64 0]), (sb, .svs [Str st, IL sa, I64 n]), (db, .svs (dC ⟨df, dl, dt, dr⟩))]⟩)
      · rcases hB with ⟨hi0, rfl⟩ | ⟨hi0, g1, u1, rfl⟩
        · have e2 : A = [] := List.eq_nil_of_length_eq_zero (by omega)
          subst e2
          have s1 := St.le_nilC (t := [(2, .op db 0), (3, .op sb 0), (4, .op rb 0), (5, SB false), (6, .op nb 0), (7, I64 sa.length)]) (h := [(nb, .svs [Str dt, SN, I64 ((n : Int) + 1)]), (rb, .svs [Str ⟨#[]⟩, SN, I64 0]), (sb, .svs [Str st, IL sa, I64 n]), (db, .svs (dC ⟨df, dl, dt, dr⟩))]) (c := nb) (j := 1) (sz := 1) (f := iF []) (by rw [find_cons, if_pos rfl]) (by show 1 < 3; omega) rfl
          rw [upd_cons, if_pos rfl] at s1
          exact s1
        · simp only [fresh_cons, fresh_nil, and_true, ne_eq] at u1
          obtain ⟨⟨a1, a2⟩, _⟩ := u1
          have s1 := St.le_freezeC (t := [(2, .op db 0), (3, .op sb 0), (4, .op rb 0), (5, SB false), (6, .op nb 0), (7, I64 sa.length)]) (h := [(g1, .ints .i64 A), (nb, .svs [Str dt, .os g1 0 sa.length 1, I64 ((n : Int) + 1)]), (rb, .svs [Str ⟨#[]⟩, SN, I64 0]), (sb, .svs [Str st, IL sa, I64 n]), (db, .svs (dC ⟨df, dl, dt, dr⟩))]) (c := nb) (j := 1) (b := g1) (off := 0) (len := sa.length) (sz := 1) (by rw [find_cons, if_neg a2, find_cons, if_pos rfl]) a1 (by show 1 < 3; omega) rfl (by rw [find_cons, if_pos rfl]) (by show 0 + sa.length * 1 ≤ A.length; omega) (iF A) (fun p _ => ints_get A p)
          rw [del_cons, if_pos rfl, upd_cons, if_pos rfl] at s1
          unfold IL
          rw [l2]
          exact s1
      · have hD := hE
        repeat' first | (refine SW.seq_k fun K hK => ?_) | ((first | refine SW.region ?_ | refine SW.cond ?_ | refine SW.exit ?_ | refine SW.ret ?_); try simp only [go_sem, hD, hli, true_implies]) | ((first | apply hK | (clear hK K; apply hK) | (clear hK K; clear hK K; apply hK)); clear hK K)
        apply ret_cell (i := 4) (n := 3); exact rfl; (simp only [go_sem, hD]; try rfl); (first | exact Nat.le_refl _ | decide); simp only [resL_tmp, resL_cellE, resC_ok, resL_nil, tupOf, getN, go_sem, hD]
  · rw [if_neg hf] at hX
    subst hX
    have ee : (df.toList == st.toList) = false := by rw [Bool.eq_false_iff]; exact fun h => hf (barr_eq.1 h).symm
    refine Call.enter' (N := 50) (rs := [.cell 4 96, .tmp 5]) Tryz.func70 rfl rfl rfl (by decide) rfl ?_; simp only [argT]; have hD : (0 : Nat) = 0 := rfl
    repeat' first | (refine SW.seq_k fun K hK => ?_) | ((first | refine SW.region ?_ | refine SW.cond ?_ | refine SW.ret ?_ | (refine allF_i fun b hb => ?_; replace hD := And.intro hb hD; clear hb; try simp only [fresh_cons, fresh_nil, and_true, ne_eq, neF] at hD)); try simp only [go_sem, hD, ee, true_implies]) | ((first | apply hK | (clear hK K; apply hK) | (clear hK K; clear hK K; apply hK)); clear hK K)
    apply ret_cell (i := 4) (n := 3); exact rfl; (simp only [go_sem, hD]; try rfl); (first | exact Nat.le_refl _ | decide); simp only [resL_tmp, resL_cellE, resC_ok, resL_nil, tupOf, getN, go_sem, hD]

theorem itoa_size (n : Int) (h0 : 0 ≤ n) (h1 : n < 16) : (itoaS n).size ≤ 20 := by
  have : ∀ x : Fin 16, (itoaS (x.val : Int)).size ≤ 20 := by decide +kernel
  have h := this ⟨n.toNat, by omega⟩
  rwa [show ((n.toNat : Nat) : Int) = n by omega] at h
set_option maxHeartbeats 1000000 in
set_option maxRecDepth 20000 in
theorem name_p (t : ByteArray) (a : List Int) (z1 z2 : Int) (ps : SV) (hps : single ps = true) (ht : t.size ≤ 1000000) (ha : In16 a) (hl : a.length ≤ 1000) : PCall Tryz.prog 68 [.agg [Str t, IL a, I64 z1, I64 z2, ps]] (Str (nameS t a)) := by
  obtain ⟨R, hR⟩ : ∃ R, R = nameS t a := ⟨_, rfl⟩
  rw [← hR]
  have hai : ∀ i, i < a.length → 0 ≤ a.getD i 0 ∧ a.getD i 0 < 16 := fun i hi => ha _ (getD_mem' 0 hi)
  clear ha
  refine Call.enter' (N := 22) (rs := [.tmp 2]) Tryz.func68 rfl rfl rfl (by decide) rfl ?_; simp only [argT]; have hD : (0 : Nat) = 0 := rfl
  repeat' first | (refine SW.seq_k fun K hK => ?_) | (refine SW.block ?_) | ((first | refine SW.region ?_ | (refine allF_i fun b hb => ?_; replace hD := And.intro hb hD; clear hb; try simp only [fresh_cons, fresh_nil, and_true, ne_eq, neF] at hD)); try simp only [go_sem, hD, hps]) | ((first | apply hK | (clear hK K; apply hK) | (clear hK K; clear hK K; apply hK)); clear hK K)
  refine Ab.SW.le St.le_drop ?_
  obtain ⟨I, hI⟩ : ∃ I : Nat → St → Prop, ∀ k S, I k S ↔ (∃ (i : Nat) (s : ByteArray), k = a.length - i ∧ i ≤ a.length ∧ s.size ≤ 1000000 + 21 * i ∧ R = nameS s (a.drop i) ∧ S = ⟨[(3, Str s), (9, IL a), (10, I64 a.length), (11, I64 i)], []⟩) := ⟨fun k S => _, fun _ _ => Iff.rfl⟩
  refine SW.loop' I (a.length) ((hI _ _).2 ⟨0, t, rfl, Nat.zero_le _, ht, hR, rfl⟩) (by repeat' (first | exact rfl | exact trivial | exact int_eq (by omega) | exact int_eq (by (rw [i64_wrap] <;> omega)) | constructor)) ?_
  intro k S hIn
  obtain ⟨i, s, rfl, hi, hsz, hC, rfl⟩ := (hI _ _).1 hIn
  clear hIn
  have ie : ((i : Nat) : Int).toNat = i := Int.toNat_natCast _
  have i0 : (0 : Int) ≤ ((i : Nat) : Int) := by omega
  clear hR
  by_cases hlt : i < a.length
  · have hli : ((i : Nat) : Int) < (((a.length) : Nat) : Int) := by omega
    have w1 : IntKind.i64.wrap ((i : Int) + 1) = ((i + 1 : Nat) : Int) := by rw [i64_wrap (by omega) (by omega)]; omega
    rw [nameS_step hlt] at hC
    have fi : iF a i = [I64 (a.getD i 0)] := rfl
    obtain ⟨x0, x1⟩ := hai i hlt
    have c := itoa_c (a.getD i 0) ⟨by omega, by omega⟩
    have is := itoa_size _ x0 x1
    generalize a.getD i 0 = x at *
    have e1 : ((⟨#[32]⟩ : ByteArray).size : Int) = 1 := rfl
    generalize itoaS x = D at *
    have sz : ((⟨#[32]⟩ : ByteArray) ++ D).size = 1 + D.size := ByteArray.size_append
    have sz2 : (s ++ (⟨#[32]⟩ ++ D)).size = s.size + (1 + D.size) := by rw [ByteArray.size_append, sz]
    have b1 : ((((⟨#[32]⟩ : ByteArray).size + D.size : Nat) : Int) ≤ 9223372036854775807) := by
      have : (⟨#[32]⟩ : ByteArray).size = 1 := rfl
      omega
    have b2 : (((s.size + ((⟨#[32]⟩ : ByteArray) ++ D).size : Nat) : Int) ≤ 9223372036854775807) := by omega
    repeat' first | (with_reducible refine And.intro (by omega) ?_) | (refine SW.seq_k fun K hK => ?_) | (refine SW.block ?_) | ((first | refine SW.region ?_ | refine SW.cond ?_ | refine SW.skip ?_ | refine Call.of_pure (c) ?_); try simp only [go_sem, hD, hli, ie, i0, w1, fi, b1, b2]) | ((first | apply hK | (clear hK K; apply hK) | (clear hK K; clear hK K; apply hK)); clear hK K)
    refine Rnd.le St.le_drop (Rnd.sub (a.length - (i + 1)) (by omega) ((hI _ _).2 ⟨i + 1, s ++ (⟨#[32]⟩ ++ D), rfl, by omega, (by omega), hC, rfl⟩) (by repeat' (first | exact rfl | exact trivial | exact int_eq (by omega) | exact int_eq (by (rw [i64_wrap] <;> omega)) | constructor)))
  · have hli : ¬ ((i : Nat) : Int) < (((a.length) : Nat) : Int) := by omega
    rw [List.drop_of_length_le (by omega)] at hC
    have hC2 : R = s := hC
    subst hC2
    repeat' first | (refine SW.seq_k fun K hK => ?_) | ((first | refine SW.region ?_ | refine SW.cond ?_ | refine SW.exit ?_ | refine SW.ret ?_); try simp only [go_sem, hD, hli]) | ((first | apply hK | (clear hK K; apply hK) | (clear hK K; clear hK K; apply hK)); clear hK K)
    refine ret_pure ?_; simp only [resL_tmp, resL_nil, tupOf, go_sem, hD]
end Go.Proofs.YtblfodnajpamfaaGreatDoor
/- Contracts: equal lists; states found, of the reference. -/
namespace Go.Ab
open Go
theorem St.le_del' [Gl] {t : List (Nat × SV)} {h h' : Heap} {b : Nat} (e : h.del b = h') : (St.mk t h).le ⟨t, h'⟩ := e ▸ St.le_del
theorem fresh_ne_find {H : Heap} {b c : Nat} {k : Blk} (hf : fresh H b) (hc : H.find c = some k) : ¬ b = c := by
  induction H with
  | nil => cases hc
  | cons x r ih =>
    obtain ⟨d, k'⟩ := x
    rw [fresh_cons] at hf
    rw [find_cons] at hc
    by_cases hd : d = c
    · subst hd; exact hf.1.2
    · rw [if_neg hd] at hc; exact ih hf.2 hc
end Go.Ab
namespace Go.Ab.A15
open Go Go.Ab Go.Ab.A34
theorem list_eq {a c : List Int} (hl : a.length = c.length) (h : ∀ j, j < a.length → a.getD j 0 = c.getD j 0) : a = c := by
  refine List.ext_getElem hl fun i h1 h2 => ?_
  have := h i h1
  simpa [List.getD_eq_getElem?_getD, h1, h2] using this
/-- Cells of lists. -/
theorem fC_get {α : Type} {enc : α → List SV} {k : Nat} (hk : ∀ x, (enc x).length = k) (d : α) {l : List α} {i j : Nat} (hi : i < l.length) (hj : j < k) : (fC enc l).getD (i * k + j) .any = (enc (l.getD i d)).getD j .any := by
  rw [fC_at hk d l i hi]
  rw [List.getD_eq_getElem?_getD, List.getD_eq_getElem?_getD, List.getElem?_take_of_lt hj, List.getElem?_drop]
abbrev r3C (s : Sn) : List SV := [Str s.t, IL s.a, I64 s.st]
def r3F (l : List Sn) (i : Nat) : List SV := r3C (l.getD i s0)
theorem fC_lt {α : Type} {enc : α → List SV} {k : Nat} (hk : ∀ x, (enc x).length = k) {l : List α} {i j : Nat} (hi : i < l.length) (hj : j < k) : i * k + j < (fC enc l).length := by
  rw [← fC_len hk]
  have : (i + 1) * k ≤ l.length * k := Nat.mul_le_mul_right k hi
  rw [Nat.add_mul, Nat.one_mul] at this
  omega
end Go.Ab.A15
namespace Go.Proofs.YtblfodnajpamfaaGreatDoor
open Go Go.Ab Go.Ab.A34 Go.Ab.A15
variable [Gl] [Tabs]

theorem same_r (a c : List Int) (ha : a.length ≤ 1000000000) (hc : c.length ≤ 1000000000) (n : Nat) (hn : c.length = n) (f : Nat → List SV) (hf : ∀ i, i < n → f i = [I64 (c.getD i 0)]) : PCall Tryz.prog 43 [IL a, .fl n 1 f] (SB (decide (a = c))) := by
  subst hn
  obtain ⟨X, hX⟩ : ∃ X, X = decide (a = c) := ⟨_, rfl⟩
  rw [← hX]
  have h0 : ¬ a.length = c.length → X = false := fun h => by rw [hX, decide_eq_false fun e => h (by rw [e])]
  have h1 : a.length = c.length → (∀ j, j < a.length → a.getD j 0 = c.getD j 0) → X = true := fun hl h => by rw [hX, decide_eq_true (list_eq hl h)]
  have h2 : ∀ j, ¬ a.getD j 0 = c.getD j 0 → X = false := fun j h => by rw [hX, decide_eq_false fun e => h (by rw [e])]
  clear hX
  by_cases hl : a.length = c.length
  · have hlq : ((a.length : Nat) : Int) = ((c.length : Nat) : Int) := by omega
    refine Call.enter' (N := 26) (rs := [.tmp 4]) Tryz.func43 rfl rfl rfl (by decide) rfl ?_; simp only [argT]; have hD : (0 : Nat) = 0 := rfl
    repeat' first | (refine SW.seq_k fun K hK => ?_) | (refine SW.block ?_) | ((first | refine SW.region ?_ | refine SW.cond ?_ | refine SW.skip ?_); try simp only [go_sem, hD, hlq]) | ((first | apply hK | (clear hK K; apply hK) | (clear hK K; clear hK K; apply hK)); clear hK K)
    obtain ⟨I, hI⟩ : ∃ I : Nat → St → Prop, ∀ k S, I k S ↔ (∃ (i : Nat) , k = a.length - i ∧ i ≤ a.length ∧ (∀ j, j < i → a.getD j 0 = c.getD j 0) ∧ S = ⟨[(0, IL a), (1, .fl c.length 1 f), (5, I64 i)], []⟩) := ⟨fun k S => _, fun _ _ => Iff.rfl⟩
    refine SW.loop' I (a.length) ((hI _ _).2 ⟨0, rfl, Nat.zero_le _, (fun j hj => absurd hj (by omega)), rfl⟩) (by repeat' (first | exact rfl | exact trivial | exact int_eq (by omega) | exact int_eq (by (rw [i64_wrap] <;> omega)) | constructor)) ?_
    intro k S hIn
    obtain ⟨i, rfl, hi, hL, rfl⟩ := (hI _ _).1 hIn
    clear hIn
    have ie : ((i : Nat) : Int).toNat = i := Int.toNat_natCast _
    have i0 : (0 : Int) ≤ ((i : Nat) : Int) := by omega
    by_cases hlt : i < a.length
    · have hli : ((i : Nat) : Int) < (((a.length) : Nat) : Int) := by omega
      have w1 : IntKind.i64.wrap ((i : Int) + 1) = ((i + 1 : Nat) : Int) := by rw [i64_wrap (by omega) (by omega)]; omega
      have hlc : ((i : Nat) : Int) < ((c.length : Nat) : Int) := by omega
      have fi : iF a i = [I64 (a.getD i 0)] := rfl
      have gi := hf i (by omega)
      have h2i := h2 i
      have hn1 : a.getD i 0 = c.getD i 0 → ∀ j, j < i + 1 → a.getD j 0 = c.getD j 0 := fun h j hj => by
        rcases Nat.lt_or_ge j i with h3 | h3
        · exact hL j h3
        · obtain rfl : j = i := by omega
          exact h
      generalize a.getD i 0 = u at *
      generalize c.getD i 0 = v at *
      by_cases huv : u = v
      · have hn2 := hn1 huv
        repeat' first | (refine SW.seq_k fun K hK => ?_) | (refine SW.block ?_) | ((first | refine SW.region ?_ | refine SW.regionZ (id := 6) (Checked.mixed Tryz.checked) ((.one 0 [0, 2, 3, 8] (.one 1 [1, 2, 3, 8] (.one 2 [2, 3, 8] (.one 3 [3, 8] (.one 4 [4, 6, 7, 8] (.one 5 [5, 6, 7, 8] (.one 6 [6, 7, 8] (.one 7 [7, 8] (.one 8 [8] .done))))))))) : OZ) (by kernel_rfl) ?_ | refine SW.cond ?_ | refine SW.skip ?_); try simp only [go_sem, hD, hli, hlc, ie, i0, w1, fi, gi, huv]) | ((first | apply hK | (clear hK K; apply hK) | (clear hK K; clear hK K; apply hK)); clear hK K)
        refine Rnd.sub (a.length - (i + 1)) (by omega) ((hI _ _).2 ⟨i + 1, rfl, by omega, hn2, rfl⟩) (by repeat' (first | exact rfl | exact trivial | exact int_eq (by omega) | exact int_eq (by (rw [i64_wrap] <;> omega)) | constructor))
      · have hx := h2i huv
        subst hx
        repeat' first | (refine SW.seq_k fun K hK => ?_) | (refine SW.block ?_) | ((first | refine SW.region ?_ | refine SW.regionZ (id := 6) (Checked.mixed Tryz.checked) ((.one 0 [0, 2, 3, 8] (.one 1 [1, 2, 3, 8] (.one 2 [2, 3, 8] (.one 3 [3, 8] (.one 4 [4, 6, 7, 8] (.one 5 [5, 6, 7, 8] (.one 6 [6, 7, 8] (.one 7 [7, 8] (.one 8 [8] .done))))))))) : OZ) (by kernel_rfl) ?_ | refine SW.cond ?_ | refine SW.skip ?_ | refine SW.ret ?_); try simp only [go_sem, hD, hli, hlc, ie, i0, w1, fi, gi, huv]) | ((first | apply hK | (clear hK K; apply hK) | (clear hK K; clear hK K; apply hK)); clear hK K)
        refine ret_pure ?_; simp only [resL_tmp, resL_nil, tupOf, go_sem, hD]
    · have hli : ¬ ((i : Nat) : Int) < (((a.length) : Nat) : Int) := by omega
      have hx := h1 hl fun j hj => hL j (by omega)
      subst hx
      have nl : ¬ ((c.length : Nat) : Int) < ((c.length : Nat) : Int) := by omega
      repeat' first | (refine SW.seq_k fun K hK => ?_) | ((first | refine SW.region ?_ | refine SW.cond ?_ | refine SW.exit ?_ | refine SW.ret ?_); try simp only [go_sem, hD, hli, nl]) | ((first | apply hK | (clear hK K; apply hK) | (clear hK K; clear hK K; apply hK)); clear hK K)
      refine ret_pure ?_; simp only [resL_tmp, resL_nil, tupOf, go_sem, hD]
  · have hlq : ¬ ((a.length : Nat) : Int) = ((c.length : Nat) : Int) := by omega
    have hx := h0 hl
    subst hx
    refine Call.enter' (N := 26) (rs := [.tmp 4]) Tryz.func43 rfl rfl rfl (by decide) rfl ?_; simp only [argT]; have hD : (0 : Nat) = 0 := rfl
    repeat' first | (refine SW.seq_k fun K hK => ?_) | ((first | refine SW.region ?_ | refine SW.cond ?_ | refine SW.ret ?_); try simp only [go_sem, hD, hlq]) | ((first | apply hK | (clear hK K; apply hK) | (clear hK K; clear hK K; apply hK)); clear hK K)
    refine ret_pure ?_; simp only [resL_tmp, resL_nil, tupOf, go_sem, hD]
theorem equal_i (a c : List Int) (ha : a.length ≤ 1000000000) (hc : c.length ≤ 1000000000) (n : Nat) (hn : c.length = n) (f : Nat → List SV) (hf : ∀ i, i < n → f i = [I64 (c.getD i 0)]) : PCall Tryz.prog 45 [IL a, .fl n 1 f] (SB (decide (a = c))) := by
  subst hn
  obtain ⟨X, hX⟩ : ∃ X, X = decide (a = c) := ⟨_, rfl⟩
  rw [← hX]
  have h0 : ¬ a.length = c.length → X = false := fun h => by rw [hX, decide_eq_false fun e => h (by rw [e])]
  have h1 : a.length = c.length → (∀ j, j < a.length → a.getD j 0 = c.getD j 0) → X = true := fun hl h => by rw [hX, decide_eq_true (list_eq hl h)]
  have h2 : ∀ j, ¬ a.getD j 0 = c.getD j 0 → X = false := fun j h => by rw [hX, decide_eq_false fun e => h (by rw [e])]
  clear hX
  by_cases hl : a.length = c.length
  · have hlq : ((a.length : Nat) : Int) = ((c.length : Nat) : Int) := by omega
    refine Call.enter' (N := 26) (rs := [.tmp 4]) Tryz.func45 rfl rfl rfl (by decide) rfl ?_; simp only [argT]; have hD : (0 : Nat) = 0 := rfl
    repeat' first | (refine SW.seq_k fun K hK => ?_) | (refine SW.block ?_) | ((first | refine SW.region ?_ | refine SW.cond ?_ | refine SW.skip ?_); try simp only [go_sem, hD, hlq]) | ((first | apply hK | (clear hK K; apply hK) | (clear hK K; clear hK K; apply hK)); clear hK K)
    obtain ⟨I, hI⟩ : ∃ I : Nat → St → Prop, ∀ k S, I k S ↔ (∃ (i : Nat) , k = a.length - i ∧ i ≤ a.length ∧ (∀ j, j < i → a.getD j 0 = c.getD j 0) ∧ S = ⟨[(0, IL a), (1, .fl c.length 1 f), (11, IL a), (12, I64 a.length), (13, I64 i)], []⟩) := ⟨fun k S => _, fun _ _ => Iff.rfl⟩
    refine SW.loop' I (a.length) ((hI _ _).2 ⟨0, rfl, Nat.zero_le _, (fun j hj => absurd hj (by omega)), rfl⟩) (by repeat' (first | exact rfl | exact trivial | exact int_eq (by omega) | exact int_eq (by (rw [i64_wrap] <;> omega)) | constructor)) ?_
    intro k S hIn
    obtain ⟨i, rfl, hi, hL, rfl⟩ := (hI _ _).1 hIn
    clear hIn
    have ie : ((i : Nat) : Int).toNat = i := Int.toNat_natCast _
    have i0 : (0 : Int) ≤ ((i : Nat) : Int) := by omega
    by_cases hlt : i < a.length
    · have hli : ((i : Nat) : Int) < (((a.length) : Nat) : Int) := by omega
      have w1 : IntKind.i64.wrap ((i : Int) + 1) = ((i + 1 : Nat) : Int) := by rw [i64_wrap (by omega) (by omega)]; omega
      have hlc : ((i : Nat) : Int) < ((c.length : Nat) : Int) := by omega
      have fi : iF a i = [I64 (a.getD i 0)] := rfl
      have gi := hf i (by omega)
      have h2i := h2 i
      have hn1 : a.getD i 0 = c.getD i 0 → ∀ j, j < i + 1 → a.getD j 0 = c.getD j 0 := fun h j hj => by
        rcases Nat.lt_or_ge j i with h3 | h3
        · exact hL j h3
        · obtain rfl : j = i := by omega
          exact h
      generalize a.getD i 0 = u at *
      generalize c.getD i 0 = v at *
      by_cases huv : u = v
      · have hn2 := hn1 huv
        repeat' first | (refine SW.seq_k fun K hK => ?_) | (refine SW.block ?_) | ((first | refine SW.region ?_ | refine SW.regionZ (id := 6) (Checked.mixed Tryz.checked) ((.one 0 [0, 2, 3, 8] (.one 1 [1, 2, 3, 8] (.one 2 [2, 3, 8] (.one 3 [3, 8] (.one 4 [4, 6, 7, 8] (.one 5 [5, 6, 7, 8] (.one 6 [6, 7, 8] (.one 7 [7, 8] (.one 8 [8] .done))))))))) : OZ) (by kernel_rfl) ?_ | refine SW.cond ?_ | refine SW.skip ?_); try simp only [go_sem, hD, hli, hlc, ie, i0, w1, fi, gi, huv]) | ((first | apply hK | (clear hK K; apply hK) | (clear hK K; clear hK K; apply hK)); clear hK K)
        refine Rnd.sub (a.length - (i + 1)) (by omega) ((hI _ _).2 ⟨i + 1, rfl, by omega, hn2, rfl⟩) (by repeat' (first | exact rfl | exact trivial | exact int_eq (by omega) | exact int_eq (by (rw [i64_wrap] <;> omega)) | constructor))
      · have hx := h2i huv
        subst hx
        repeat' first | (refine SW.seq_k fun K hK => ?_) | (refine SW.block ?_) | ((first | refine SW.region ?_ | refine SW.regionZ (id := 6) (Checked.mixed Tryz.checked) ((.one 0 [0, 2, 3, 8] (.one 1 [1, 2, 3, 8] (.one 2 [2, 3, 8] (.one 3 [3, 8] (.one 4 [4, 6, 7, 8] (.one 5 [5, 6, 7, 8] (.one 6 [6, 7, 8] (.one 7 [7, 8] (.one 8 [8] .done))))))))) : OZ) (by kernel_rfl) ?_ | refine SW.cond ?_ | refine SW.skip ?_ | refine SW.ret ?_); try simp only [go_sem, hD, hli, hlc, ie, i0, w1, fi, gi, huv]) | ((first | apply hK | (clear hK K; apply hK) | (clear hK K; clear hK K; apply hK)); clear hK K)
        refine ret_pure ?_; simp only [resL_tmp, resL_nil, tupOf, go_sem, hD]
    · have hli : ¬ ((i : Nat) : Int) < (((a.length) : Nat) : Int) := by omega
      have hx := h1 hl fun j hj => hL j (by omega)
      subst hx
      have nl : ¬ ((c.length : Nat) : Int) < ((c.length : Nat) : Int) := by omega
      repeat' first | (refine SW.seq_k fun K hK => ?_) | ((first | refine SW.region ?_ | refine SW.cond ?_ | refine SW.exit ?_ | refine SW.ret ?_); try simp only [go_sem, hD, hli, nl]) | ((first | apply hK | (clear hK K; apply hK) | (clear hK K; clear hK K; apply hK)); clear hK K)
      refine ret_pure ?_; simp only [resL_tmp, resL_nil, tupOf, go_sem, hD]
  · have hlq : ¬ ((a.length : Nat) : Int) = ((c.length : Nat) : Int) := by omega
    have hx := h0 hl
    subst hx
    refine Call.enter' (N := 26) (rs := [.tmp 4]) Tryz.func45 rfl rfl rfl (by decide) rfl ?_; simp only [argT]; have hD : (0 : Nat) = 0 := rfl
    repeat' first | (refine SW.seq_k fun K hK => ?_) | ((first | refine SW.region ?_ | refine SW.cond ?_ | refine SW.ret ?_); try simp only [go_sem, hD, hlq]) | ((first | apply hK | (clear hK K; apply hK) | (clear hK K; clear hK K; apply hK)); clear hK K)
    refine ret_pure ?_; simp only [resL_tmp, resL_nil, tupOf, go_sem, hD]

set_option maxHeartbeats 1000000 in
set_option maxRecDepth 20000 in
theorem find_r (l : List Sn) (t : ByteArray) (a : List Int) (z : Int) (hl : l.length ≤ 1000000) (hal : a.length ≤ 1000000) (hs : ∀ s ∈ l, s.a.length ≤ 1000000) : PCall Tryz.prog 42 [.fl l.length 3 (r3F l), .agg [Str t, IL a, I64 z]] (I64 (findS t a 0 l)) := by
  obtain ⟨R, hR⟩ : ∃ R, R = findS t a 0 l := ⟨_, rfl⟩
  rw [← hR]
  refine Call.enter' (N := 31) (rs := [.tmp 4]) Tryz.func42 rfl rfl rfl (by decide) rfl ?_; simp only [argT]; have hD : (0 : Nat) = 0 := rfl
  repeat' first | (refine SW.seq_k fun K hK => ?_) | (refine SW.block ?_) | ((first | refine SW.region ?_ | (refine allF_i fun b hb => ?_; replace hD := And.intro hb hD; clear hb; try simp only [fresh_cons, fresh_nil, and_true, ne_eq, neF] at hD)); try simp only [go_sem, hD]) | ((first | apply hK | (clear hK K; apply hK) | (clear hK K; clear hK K; apply hK)); clear hK K)
  obtain ⟨sb, rfl⟩ : ∃ x, x = b := ⟨_, rfl⟩
  obtain ⟨I, hI⟩ : ∃ I : Nat → St → Prop, ∀ k S, I k S ↔ (∃ (i : Nat) , k = l.length - i ∧ i ≤ l.length ∧ R = findS t a i (l.drop i) ∧ S = ⟨[(0, .fl l.length 3 (r3F l)), (3, .op sb 0), (5, I64 i)], [(sb, .svs [Str t, IL a, I64 z])]⟩) := ⟨fun k S => _, fun _ _ => Iff.rfl⟩
  refine SW.loop' I (l.length) ((hI _ _).2 ⟨0, rfl, Nat.zero_le _, by rw [List.drop_zero]; exact hR, rfl⟩) (by repeat' (first | exact rfl | exact trivial | exact int_eq (by omega) | exact int_eq (by (rw [i64_wrap] <;> omega)) | constructor)) ?_
  intro k S hIn
  obtain ⟨i, rfl, hi, hC, rfl⟩ := (hI _ _).1 hIn
  clear hIn
  have ie : ((i : Nat) : Int).toNat = i := Int.toNat_natCast _
  have i0 : (0 : Int) ≤ ((i : Nat) : Int) := by omega
  clear hR
  by_cases hlt : i < l.length
  · have hli : ((i : Nat) : Int) < (((l.length) : Nat) : Int) := by omega
    have w1 : IntKind.i64.wrap ((i : Int) + 1) = ((i + 1 : Nat) : Int) := by rw [i64_wrap (by omega) (by omega)]; omega
    rw [findS_step hlt] at hC
    have fi : r3F l i = r3C (l.getD i s0) := rfl
    have hsi := hs _ (getD_mem' s0 hlt)
    generalize l.getD i s0 = s at *
    have c := same_r s.a a (by omega) (by omega) a.length rfl (iF a) (fun j hj => rfl)
    obtain ⟨st, sa, x1, x2, x3, x4⟩ := s
    simp only at hC c
    by_cases e1 : st = t
    · have ee : (st.toList == t.toList) = true := barr_eq.2 e1
      by_cases e2 : sa = a
      · rw [if_pos ⟨e1, e2⟩] at hC
        rw [decide_eq_true e2] at c
        subst hC
        repeat' first | (refine SW.seq_k fun K hK => ?_) | (refine SW.block ?_) | ((first | refine SW.region ?_ | refine SW.regionZ (id := 4) (Checked.mixed Tryz.checked) ((.one 0 [0, 2, 3, 4, 7, 8, 9, 10, 11, 12, 13, 14, 15, 16, 17] (.one 1 [1, 2, 3, 4, 7, 8, 9, 10, 11, 12, 13, 14, 15, 16, 17] (.one 2 [2, 3, 4, 7, 8, 9, 10, 11, 12, 13, 14, 15, 16, 17] (.one 3 [3, 4, 7, 8, 9, 10, 11, 12, 13, 14, 15, 16, 17] (.one 4 [4, 7, 8, 9, 10, 11, 12, 13, 14, 15, 16, 17] (.one 5 [5, 6, 7, 8, 9, 10, 11, 12, 13, 14, 15, 16, 17] (.one 6 [6, 7, 8, 9, 10, 11, 12, 13, 14, 15, 16, 17] (.one 7 [7, 8, 9, 10, 11, 12, 13, 14, 15, 16, 17] (.one 8 [8, 9, 10, 11, 12, 13, 14, 15, 16, 17] (.one 9 [9, 11, 12, 13, 16, 17] (.one 10 [10, 11, 12, 13, 16, 17] (.one 11 [11, 12, 13, 16, 17] (.one 12 [12, 13, 16, 17] (.one 13 [13, 16, 17] (.one 14 [14, 15, 16, 17] (.one 15 [15, 16, 17] (.one 16 [16, 17] (.one 17 [17] .done)))))))))))))))))) : OZ) (by kernel_rfl) ?_ | refine SW.cond ?_ | refine SW.skip ?_ | refine SW.ret ?_ | refine ⟨_, c, ?_⟩); try simp only [go_sem, hD, hli, ie, i0, w1, fi, ee]) | ((first | apply hK | (clear hK K; apply hK) | (clear hK K; clear hK K; apply hK)); clear hK K)
        refine ret_pure ?_; simp only [resL_tmp, resL_nil, tupOf, go_sem, hD]
      · rw [if_neg (fun x => e2 x.2)] at hC
        rw [decide_eq_false e2] at c
        repeat' first | (refine SW.seq_k fun K hK => ?_) | (refine SW.block ?_) | ((first | refine SW.region ?_ | refine SW.regionZ (id := 4) (Checked.mixed Tryz.checked) ((.one 0 [0, 2, 3, 4, 7, 8, 9, 10, 11, 12, 13, 14, 15, 16, 17] (.one 1 [1, 2, 3, 4, 7, 8, 9, 10, 11, 12, 13, 14, 15, 16, 17] (.one 2 [2, 3, 4, 7, 8, 9, 10, 11, 12, 13, 14, 15, 16, 17] (.one 3 [3, 4, 7, 8, 9, 10, 11, 12, 13, 14, 15, 16, 17] (.one 4 [4, 7, 8, 9, 10, 11, 12, 13, 14, 15, 16, 17] (.one 5 [5, 6, 7, 8, 9, 10, 11, 12, 13, 14, 15, 16, 17] (.one 6 [6, 7, 8, 9, 10, 11, 12, 13, 14, 15, 16, 17] (.one 7 [7, 8, 9, 10, 11, 12, 13, 14, 15, 16, 17] (.one 8 [8, 9, 10, 11, 12, 13, 14, 15, 16, 17] (.one 9 [9, 11, 12, 13, 16, 17] (.one 10 [10, 11, 12, 13, 16, 17] (.one 11 [11, 12, 13, 16, 17] (.one 12 [12, 13, 16, 17] (.one 13 [13, 16, 17] (.one 14 [14, 15, 16, 17] (.one 15 [15, 16, 17] (.one 16 [16, 17] (.one 17 [17] .done)))))))))))))))))) : OZ) (by kernel_rfl) ?_ | refine SW.cond ?_ | refine SW.skip ?_ | refine ⟨_, c, ?_⟩); try simp only [go_sem, hD, hli, ie, i0, w1, fi, ee]) | ((first | apply hK | (clear hK K; apply hK) | (clear hK K; clear hK K; apply hK)); clear hK K)
        refine Rnd.sub (l.length - (i + 1)) (by omega) ((hI _ _).2 ⟨i + 1, rfl, by omega, hC, rfl⟩) (by repeat' (first | exact rfl | exact trivial | exact int_eq (by omega) | exact int_eq (by (rw [i64_wrap] <;> omega)) | constructor))
    · have ee : (st.toList == t.toList) = false := by rw [Bool.eq_false_iff]; exact fun h => e1 (barr_eq.1 h)
      rw [if_neg (fun x => e1 x.1)] at hC
      repeat' first | (refine SW.seq_k fun K hK => ?_) | (refine SW.block ?_) | ((first | refine SW.region ?_ | refine SW.regionZ (id := 4) (Checked.mixed Tryz.checked) ((.one 0 [0, 2, 3, 4, 7, 8, 9, 10, 11, 12, 13, 14, 15, 16, 17] (.one 1 [1, 2, 3, 4, 7, 8, 9, 10, 11, 12, 13, 14, 15, 16, 17] (.one 2 [2, 3, 4, 7, 8, 9, 10, 11, 12, 13, 14, 15, 16, 17] (.one 3 [3, 4, 7, 8, 9, 10, 11, 12, 13, 14, 15, 16, 17] (.one 4 [4, 7, 8, 9, 10, 11, 12, 13, 14, 15, 16, 17] (.one 5 [5, 6, 7, 8, 9, 10, 11, 12, 13, 14, 15, 16, 17] (.one 6 [6, 7, 8, 9, 10, 11, 12, 13, 14, 15, 16, 17] (.one 7 [7, 8, 9, 10, 11, 12, 13, 14, 15, 16, 17] (.one 8 [8, 9, 10, 11, 12, 13, 14, 15, 16, 17] (.one 9 [9, 11, 12, 13, 16, 17] (.one 10 [10, 11, 12, 13, 16, 17] (.one 11 [11, 12, 13, 16, 17] (.one 12 [12, 13, 16, 17] (.one 13 [13, 16, 17] (.one 14 [14, 15, 16, 17] (.one 15 [15, 16, 17] (.one 16 [16, 17] (.one 17 [17] .done)))))))))))))))))) : OZ) (by kernel_rfl) ?_ | refine SW.cond ?_ | refine SW.skip ?_); try simp only [go_sem, hD, hli, ie, i0, w1, fi, ee]) | ((first | apply hK | (clear hK K; apply hK) | (clear hK K; clear hK K; apply hK)); clear hK K)
      refine Rnd.sub (l.length - (i + 1)) (by omega) ((hI _ _).2 ⟨i + 1, rfl, by omega, hC, rfl⟩) (by repeat' (first | exact rfl | exact trivial | exact int_eq (by omega) | exact int_eq (by (rw [i64_wrap] <;> omega)) | constructor))
  · have hli : ¬ ((i : Nat) : Int) < (((l.length) : Nat) : Int) := by omega
    rw [List.drop_of_length_le (by omega)] at hC
    have hC2 : R = -1 := hC
    subst hC2
    repeat' first | (refine SW.seq_k fun K hK => ?_) | ((first | refine SW.region ?_ | refine SW.cond ?_ | refine SW.exit ?_ | refine SW.ret ?_); try simp only [go_sem, hD, hli]) | ((first | apply hK | (clear hK K; apply hK) | (clear hK K; clear hK K; apply hK)); clear hK K)
    refine ret_pure ?_; simp only [resL_tmp, resL_nil, tupOf, go_sem, hD]

set_option maxHeartbeats 1000000 in
set_option maxRecDepth 20000 in
theorem find_o (ob : Nat) (H : Heap) (l : List Sn) (hH : H.find ob = some (.svs (fC r3C l))) (t : ByteArray) (a : List Int) (z : Int) (hl : l.length ≤ 1000000) (hal : a.length ≤ 1000000) (hs : ∀ s ∈ l, s.a.length ≤ 1000000) :
    Ab.Call Tryz.prog 42 [.os ob 0 l.length 3, .agg [Str t, IL a, I64 z]] H (fun r h' => r = I64 (findS t a 0 l) ∧ h' = H) := by
  obtain ⟨R, hR⟩ : ∃ R, R = findS t a 0 l := ⟨_, rfl⟩
  rw [← hR]
  refine Call.enter' (N := 31) (rs := [.tmp 4]) Tryz.func42 rfl rfl rfl (by decide) rfl ?_; simp only [argT]; have hD : (0 : Nat) = 0 := rfl
  repeat' first | (refine SW.seq_k fun K hK => ?_) | (refine SW.block ?_) | ((first | refine SW.region ?_ | (refine allF_i fun b hb => ?_; replace hD := And.intro hb hD; clear hb; try simp only [fresh_cons, fresh_nil, and_true, ne_eq, neF] at hD)); try simp only [go_sem, hD]) | ((first | apply hK | (clear hK K; apply hK) | (clear hK K; clear hK K; apply hK)); clear hK K)
  obtain ⟨sb, rfl⟩ : ∃ x, x = b := ⟨_, rfl⟩
  have k1 : ¬ sb = ob := fresh_ne_find (by simp [hD]) hH
  obtain ⟨I, hI⟩ : ∃ I : Nat → St → Prop, ∀ k S, I k S ↔ (∃ (i : Nat) , k = l.length - i ∧ i ≤ l.length ∧ R = findS t a i (l.drop i) ∧ S = ⟨[(0, .os ob 0 l.length 3), (3, .op sb 0), (5, I64 i)], (sb, .svs [Str t, IL a, I64 z]) :: H⟩) := ⟨fun k S => _, fun _ _ => Iff.rfl⟩
  refine SW.loop' I (l.length) ((hI _ _).2 ⟨0, rfl, Nat.zero_le _, by rw [List.drop_zero]; exact hR, rfl⟩) (by repeat' (first | exact rfl | exact trivial | exact int_eq (by omega) | exact int_eq (by (rw [i64_wrap] <;> omega)) | constructor)) ?_
  intro k S hIn
  obtain ⟨i, rfl, hi, hC, rfl⟩ := (hI _ _).1 hIn
  clear hIn
  have ie : ((i : Nat) : Int).toNat = i := Int.toNat_natCast _
  have i0 : (0 : Int) ≤ ((i : Nat) : Int) := by omega
  clear hR
  by_cases hlt : i < l.length
  · have hli : ((i : Nat) : Int) < (((l.length) : Nat) : Int) := by omega
    have w1 : IntKind.i64.wrap ((i : Int) + 1) = ((i + 1 : Nat) : Int) := by rw [i64_wrap (by omega) (by omega)]; omega
    rw [findS_step hlt] at hC
    have f0 := fC_get (enc := r3C) (k := 3) (fun _ => rfl) s0 hlt (show 0 < 3 by omega)
    have f1 := fC_get (enc := r3C) (k := 3) (fun _ => rfl) s0 hlt (show 1 < 3 by omega)
    have m0 := fC_lt (enc := r3C) (k := 3) (fun _ => rfl) hlt (show 0 < 3 by omega)
    have m1 := fC_lt (enc := r3C) (k := 3) (fun _ => rfl) hlt (show 1 < 3 by omega)
    have z0 : 0 + i * 3 = i * 3 := Nat.zero_add _
    rw [Nat.add_zero] at f0 m0
    have hsi := hs _ (getD_mem' s0 hlt)
    generalize l.getD i s0 = s at *
    have c := same_r s.a a (by omega) (by omega) a.length rfl (iF a) (fun j hj => rfl)
    obtain ⟨st, sa, x1, x2, x3, x4⟩ := s
    simp only [List.getD_cons_zero, List.getD_cons_succ] at hC c f0 f1
    by_cases e1 : st = t
    · have ee : (st.toList == t.toList) = true := barr_eq.2 e1
      by_cases e2 : sa = a
      · rw [if_pos ⟨e1, e2⟩] at hC
        rw [decide_eq_true e2] at c
        subst hC
        repeat' first | (refine SW.seq_k fun K hK => ?_) | (refine SW.block ?_) | ((first | refine SW.region ?_ | refine SW.regionZ (id := 4) (Checked.mixed Tryz.checked) ((.one 0 [0, 2, 3, 4, 7, 8, 9, 10, 11, 12, 13, 14, 15, 16, 17] (.one 1 [1, 2, 3, 4, 7, 8, 9, 10, 11, 12, 13, 14, 15, 16, 17] (.one 2 [2, 3, 4, 7, 8, 9, 10, 11, 12, 13, 14, 15, 16, 17] (.one 3 [3, 4, 7, 8, 9, 10, 11, 12, 13, 14, 15, 16, 17] (.one 4 [4, 7, 8, 9, 10, 11, 12, 13, 14, 15, 16, 17] (.one 5 [5, 6, 7, 8, 9, 10, 11, 12, 13, 14, 15, 16, 17] (.one 6 [6, 7, 8, 9, 10, 11, 12, 13, 14, 15, 16, 17] (.one 7 [7, 8, 9, 10, 11, 12, 13, 14, 15, 16, 17] (.one 8 [8, 9, 10, 11, 12, 13, 14, 15, 16, 17] (.one 9 [9, 11, 12, 13, 16, 17] (.one 10 [10, 11, 12, 13, 16, 17] (.one 11 [11, 12, 13, 16, 17] (.one 12 [12, 13, 16, 17] (.one 13 [13, 16, 17] (.one 14 [14, 15, 16, 17] (.one 15 [15, 16, 17] (.one 16 [16, 17] (.one 17 [17] .done)))))))))))))))))) : OZ) (by kernel_rfl) ?_ | refine SW.cond ?_ | refine SW.skip ?_ | refine SW.ret ?_ | refine ⟨_, c, ?_⟩); try simp only [go_sem, hD, hli, ie, i0, w1, hH, k1, z0, f0, f1, m0, m1, ee]) | ((first | apply hK | (clear hK K; apply hK) | (clear hK K; clear hK K; apply hK)); clear hK K)
        refine retQ_le (St.le_del' (b := sb) del_head) ?_
        simp only [resL_tmp, resL_nil, tupOf, go_sem, hD]
        try exact ⟨rfl, rfl⟩
      · rw [if_neg (fun x => e2 x.2)] at hC
        rw [decide_eq_false e2] at c
        repeat' first | (refine SW.seq_k fun K hK => ?_) | (refine SW.block ?_) | ((first | refine SW.region ?_ | refine SW.regionZ (id := 4) (Checked.mixed Tryz.checked) ((.one 0 [0, 2, 3, 4, 7, 8, 9, 10, 11, 12, 13, 14, 15, 16, 17] (.one 1 [1, 2, 3, 4, 7, 8, 9, 10, 11, 12, 13, 14, 15, 16, 17] (.one 2 [2, 3, 4, 7, 8, 9, 10, 11, 12, 13, 14, 15, 16, 17] (.one 3 [3, 4, 7, 8, 9, 10, 11, 12, 13, 14, 15, 16, 17] (.one 4 [4, 7, 8, 9, 10, 11, 12, 13, 14, 15, 16, 17] (.one 5 [5, 6, 7, 8, 9, 10, 11, 12, 13, 14, 15, 16, 17] (.one 6 [6, 7, 8, 9, 10, 11, 12, 13, 14, 15, 16, 17] (.one 7 [7, 8, 9, 10, 11, 12, 13, 14, 15, 16, 17] (.one 8 [8, 9, 10, 11, 12, 13, 14, 15, 16, 17] (.one 9 [9, 11, 12, 13, 16, 17] (.one 10 [10, 11, 12, 13, 16, 17] (.one 11 [11, 12, 13, 16, 17] (.one 12 [12, 13, 16, 17] (.one 13 [13, 16, 17] (.one 14 [14, 15, 16, 17] (.one 15 [15, 16, 17] (.one 16 [16, 17] (.one 17 [17] .done)))))))))))))))))) : OZ) (by kernel_rfl) ?_ | refine SW.cond ?_ | refine SW.skip ?_ | refine ⟨_, c, ?_⟩); try simp only [go_sem, hD, hli, ie, i0, w1, hH, k1, z0, f0, f1, m0, m1, ee]) | ((first | apply hK | (clear hK K; apply hK) | (clear hK K; clear hK K; apply hK)); clear hK K)
        refine Rnd.sub (l.length - (i + 1)) (by omega) ((hI _ _).2 ⟨i + 1, rfl, by omega, hC, rfl⟩) (by repeat' (first | exact rfl | exact trivial | exact int_eq (by omega) | exact int_eq (by (rw [i64_wrap] <;> omega)) | constructor))
    · have ee : (st.toList == t.toList) = false := by rw [Bool.eq_false_iff]; exact fun h => e1 (barr_eq.1 h)
      rw [if_neg (fun x => e1 x.1)] at hC
      repeat' first | (refine SW.seq_k fun K hK => ?_) | (refine SW.block ?_) | ((first | refine SW.region ?_ | refine SW.regionZ (id := 4) (Checked.mixed Tryz.checked) ((.one 0 [0, 2, 3, 4, 7, 8, 9, 10, 11, 12, 13, 14, 15, 16, 17] (.one 1 [1, 2, 3, 4, 7, 8, 9, 10, 11, 12, 13, 14, 15, 16, 17] (.one 2 [2, 3, 4, 7, 8, 9, 10, 11, 12, 13, 14, 15, 16, 17] (.one 3 [3, 4, 7, 8, 9, 10, 11, 12, 13, 14, 15, 16, 17] (.one 4 [4, 7, 8, 9, 10, 11, 12, 13, 14, 15, 16, 17] (.one 5 [5, 6, 7, 8, 9, 10, 11, 12, 13, 14, 15, 16, 17] (.one 6 [6, 7, 8, 9, 10, 11, 12, 13, 14, 15, 16, 17] (.one 7 [7, 8, 9, 10, 11, 12, 13, 14, 15, 16, 17] (.one 8 [8, 9, 10, 11, 12, 13, 14, 15, 16, 17] (.one 9 [9, 11, 12, 13, 16, 17] (.one 10 [10, 11, 12, 13, 16, 17] (.one 11 [11, 12, 13, 16, 17] (.one 12 [12, 13, 16, 17] (.one 13 [13, 16, 17] (.one 14 [14, 15, 16, 17] (.one 15 [15, 16, 17] (.one 16 [16, 17] (.one 17 [17] .done)))))))))))))))))) : OZ) (by kernel_rfl) ?_ | refine SW.cond ?_ | refine SW.skip ?_); try simp only [go_sem, hD, hli, ie, i0, w1, hH, k1, z0, f0, f1, m0, m1, ee]) | ((first | apply hK | (clear hK K; apply hK) | (clear hK K; clear hK K; apply hK)); clear hK K)
      refine Rnd.sub (l.length - (i + 1)) (by omega) ((hI _ _).2 ⟨i + 1, rfl, by omega, hC, rfl⟩) (by repeat' (first | exact rfl | exact trivial | exact int_eq (by omega) | exact int_eq (by (rw [i64_wrap] <;> omega)) | constructor))
  · have hli : ¬ ((i : Nat) : Int) < (((l.length) : Nat) : Int) := by omega
    rw [List.drop_of_length_le (by omega)] at hC
    have hC2 : R = -1 := hC
    subst hC2
    repeat' first | (refine SW.seq_k fun K hK => ?_) | ((first | refine SW.region ?_ | refine SW.cond ?_ | refine SW.exit ?_ | refine SW.ret ?_); try simp only [go_sem, hD, hli]) | ((first | apply hK | (clear hK K; apply hK) | (clear hK K; clear hK K; apply hK)); clear hK K)
    refine retQ_le (St.le_del' (b := sb) del_head) ?_
    simp only [resL_tmp, resL_nil, tupOf, go_sem, hD]
    try exact ⟨rfl, rfl⟩
end Go.Proofs.YtblfodnajpamfaaGreatDoor
/- Contracts: the states of the reference; the distance. -/
namespace Go.Ab.A15
open Go Go.Ab Go.Ab.A34
theorem nexV_of (s : Sn) (i k : Nat) (d : Dp) : nexV s.t s.a s.st d = match nextS s i k d with
    | none => .tup [.agg [Str ⟨#[]⟩, SN, I64 0], SB false]
    | some s' => .tup [.agg (r3C s'), SB true] := by
  unfold nexV nextS
  by_cases h : s.t = d.f
  · rw [if_pos h, if_pos h]
    cases folI d s.a with
    | none => rfl
    | some q =>
      have e : ((s.st + 1 : Nat) : Int) = (s.st : Int) + 1 := by omega
      simp only [r3C, e]
  · rw [if_neg h, if_neg h]
/-- What is bounded besides. -/
def OkL (l : List Dp) : Prop := ∀ d ∈ l, d.l.length ≤ 1000000
theorem Ivs.st {l : List Dp} {g : Dp} {out : List Sn} (h : Ivs l g out) : ∀ j, j < out.length → (out.getD j s0).st ≤ j := by
  intro j
  induction j using Nat.strongRecOn with
  | ind j ih =>
    intro hj
    rcases Nat.eq_zero_or_pos j with rfl | h0
    · rw [h.rt]; exact Nat.le_refl 0
    · obtain ⟨b, k, hb, _, _, _, hn⟩ := h.nx j h0 hj
      obtain ⟨_, _, _, _, e5, _⟩ := nextS_bf hn
      have := ih b hb (by omega)
      omega
theorem addS_none {i k : Nat} {d : Dp} {out : List Sn} (h : nextS (out.getD i s0) i k d = none) : addS i k d out = out := by
  unfold addS; rw [h]
theorem addS_old {i k : Nat} {d : Dp} {out : List Sn} {s : Sn} (h : nextS (out.getD i s0) i k d = some s) (hf : 0 ≤ findS s.t s.a 0 out) : addS i k d out = out := by
  unfold addS; rw [h]; exact if_pos hf
theorem addS_new {i k : Nat} {d : Dp} {out : List Sn} {s : Sn} (h : nextS (out.getD i s0) i k d = some s) (hf : ¬ 0 ≤ findS s.t s.a 0 out) : addS i k d out = out ++ [s] := by
  unfold addS; rw [h]; exact if_neg hf
end Go.Ab.A15
namespace Go.Proofs.YtblfodnajpamfaaGreatDoor
open Go Go.Ab Go.Ab.A34 Go.Ab.A15
variable [Gl] [Tabs]

set_option maxHeartbeats 4000000 in
set_option maxRecDepth 20000 in
theorem states_r (l : List Dp) (g : Dp) (nm : List ByteArray) (hs : Small l g nm) (hok : OkL l) (hll : l.length ≤ 1000000) : PCall Tryz.prog 41 [DpL l, DV g] (.fl (states l g).length 3 (r3F (states l g))) := by
  have hB := hs.bds
  have hfin := (states_ok hB).1
  obtain ⟨F, hF⟩ : ∃ F, F = states l g := ⟨_, rfl⟩
  rw [← hF] at hfin ⊢
  have hFl := hB F hfin
  have hroot := Ivs.root l g
  have hall := fun out (h : Ivs l g out) => h.all hs
  have hst := fun out (h : Ivs l g out) => h.st
  have hadd := fun out i m (h : Ivs l g out) (hi : i < out.length) (hm : m < l.length) => (h.add hi hm).1
  have hg3 := hs.g3
  have hlr := hs.lr
  unfold states at hF
  obtain ⟨rt, hrt⟩ : ∃ rt, rt = root g := ⟨_, rfl⟩
  have hrc : fC r3C [rt] = [Str g.f, IL g.l, I64 0] := by rw [hrt]; rfl
  rw [← hrt] at hF hroot
  clear hrt
  obtain ⟨Q, hQ⟩ : ∃ Q : List Sn → Prop, ∀ o, Q o ↔ Ivs l g o := ⟨_, fun _ => Iff.rfl⟩
  have hBQ : ∀ o, Q o → o.length < 20000 := fun o h => hB o ((hQ o).1 h)
  have hallQ : ∀ o, Q o → ∀ j, j < o.length → (o.getD j s0).a.length ≤ 3 ∧ (o.getD j s0).st ≤ 20000 := fun o h j hj => by
    have h' := (hQ o).1 h
    have := hB o h'
    have h3 := hst o h' j hj
    have h4 := (hall o h' j hj).2.2
    omega
  have haddQ : ∀ o i m, Q o → i < o.length → m < l.length → Q (addS i m (l.getD m d0) o) := fun o i m h hi hm => (hQ _).2 (hadd o i m ((hQ o).1 h) hi hm)
  have hrQ : Q [rt] := (hQ _).2 hroot
  clear hB hfin hall hst hadd hroot hQ hs
  obtain ⟨gf, gl, gt, gr⟩ := g
  simp only at hrc hg3
  refine Call.enter' (N := 52) (rs := [.tmp 4]) Tryz.func41 rfl rfl rfl (by decide) rfl ?_; simp only [argT]; have hD : (0 : Nat) = 0 := rfl
  repeat' first | (refine SW.seq_k fun K hK => ?_) | (refine SW.block ?_) | ((first | refine SW.region ?_ | (refine allF_i fun b hb => ?_; replace hD := And.intro hb hD; clear hb; try simp only [fresh_cons, fresh_nil, and_true, ne_eq, neF] at hD)); try simp only [go_sem, hD, true_implies]) | ((first | apply hK | (clear hK K; apply hK) | (clear hK K; clear hK K; apply hK)); clear hK K)
  obtain ⟨ob, rfl⟩ : ∃ x, x = b := ⟨_, rfl⟩
  refine Ab.SW.le (St.le_pick [(ob, .svs [Str gf, IL gl, I64 0])] ?_ ?_) ?_
  · repeat' (first | exact (fun x hx => (List.not_mem_nil hx).elim) | refine List.forall_mem_cons.2 ⟨?_, ?_⟩ | exact List.mem_cons_self | apply List.mem_cons_of_mem)
  · simp [fresh_cons, fresh_nil, hD]
  rw [← hrc]
  obtain ⟨I, hI⟩ : ∃ I : Nat → St → Prop, ∀ k S, I k S ↔ (∃ (i : Nat) (out : List Sn) (ob : Nat), k = 20000 - i ∧ i ≤ 20000 ∧ Q out ∧ i ≤ out.length ∧ F = bfs l (20000 - i) i out ∧ S = ⟨[(0, DpL l), (5, .os ob 0 out.length 3), (6, I64 i)], [(ob, .svs (fC r3C out))]⟩) := ⟨fun k S => _, fun _ _ => Iff.rfl⟩
  refine SW.loop' I (20000) ((hI _ _).2 ⟨0, [rt], ob, rfl, Nat.zero_le _, hrQ, (by show 0 ≤ 1; omega), hF, rfl⟩) (by repeat' (first | exact rfl | exact trivial | exact int_eq (by omega) | exact int_eq (by (rw [i64_wrap] <;> omega)) | constructor)) ?_
  intro k S hIn
  obtain ⟨i, out, ob, rfl, hi, hO, hio, hC, rfl⟩ := (hI _ _).1 hIn
  clear hIn
  have ie : ((i : Nat) : Int).toNat = i := Int.toNat_natCast _
  have i0 : (0 : Int) ≤ ((i : Nat) : Int) := by omega
  clear hF hrc
  have hol := hBQ out hO
  by_cases hlt : i < out.length
  · have hli : ((i : Nat) : Int) < ((out.length : Nat) : Int) := by omega
    have w1 : IntKind.i64.wrap ((i : Int) + 1) = ((i + 1 : Nat) : Int) := by rw [i64_wrap (by omega) (by omega)]; omega
    have hF2 : F = bfs l (20000 - (i + 1)) (i + 1) (rndS i 0 (l.drop 0) out) := by
      rw [hC, show 20000 - i = (20000 - (i + 1)) + 1 by omega, bfs, if_pos hlt, List.drop_zero]
    clear hC
    repeat' first | (refine SW.seq_k fun K hK => ?_) | (refine SW.block ?_) | ((first | refine SW.region ?_ | refine SW.cond ?_ | refine SW.skip ?_); try simp only [go_sem, hD, hli, true_implies]) | ((first | apply hK | (clear hK K; apply hK) | (clear hK K; clear hK K; apply hK)); clear hK K)
    have hIO := hI
    have ow1 := w1
    have oi0 := i0
    have oie := ie
    clear hI
    obtain ⟨I, hI⟩ : ∃ I : Nat → St → Prop, ∀ k S, I k S ↔ (∃ (m : Nat) (out : List Sn) (ob : Nat), k = l.length - m ∧ m ≤ l.length ∧ Q out ∧ i < out.length ∧ F = bfs l (20000 - (i + 1)) (i + 1) (rndS i m (l.drop m) out) ∧ S = ⟨[(0, DpL l), (5, .os ob 0 out.length 3), (6, I64 i), (7, I64 m)], [(ob, .svs (fC r3C out))]⟩) := ⟨fun k S => _, fun _ _ => Iff.rfl⟩
    refine SW.loop' I (l.length) ((hI _ _).2 ⟨0, out, ob, rfl, Nat.zero_le _, hO, hlt, hF2, rfl⟩) (by repeat' (first | exact rfl | exact trivial | exact int_eq (by omega) | exact int_eq (by (rw [i64_wrap] <;> omega)) | constructor)) ?_
    intro k S hIn
    obtain ⟨m, out, ob, rfl, hi, hO, hio, hC, rfl⟩ := (hI _ _).1 hIn
    clear hIn
    have ie : ((m : Nat) : Int).toNat = m := Int.toNat_natCast _
    have i0 : (0 : Int) ≤ ((m : Nat) : Int) := by omega
    clear hF2
    by_cases hlt : m < l.length
    · have hli : ((m : Nat) : Int) < (((l.length) : Nat) : Int) := by omega
      have w1 : IntKind.i64.wrap ((m : Int) + 1) = ((m + 1 : Nat) : Int) := by rw [i64_wrap (by omega) (by omega)]; omega
      rw [rndS_step hlt] at hC
      have hol := hBQ out hO
      have hnx := haddQ out i m hO hio hlt
      have hal := hallQ out hO
      have fi : dpF l m = dC (l.getD m d0) := rfl
      have f0 := fC_get (enc := r3C) (k := 3) (fun _ => rfl) s0 hio (show 0 < 3 by omega)
      have f1 := fC_get (enc := r3C) (k := 3) (fun _ => rfl) s0 hio (show 1 < 3 by omega)
      have f2 := fC_get (enc := r3C) (k := 3) (fun _ => rfl) s0 hio (show 2 < 3 by omega)
      have m2 := fC_lt (enc := r3C) (k := 3) (fun _ => rfl) hio (show 2 < 3 by omega)
      have z0 : 0 + i * 3 = i * 3 := Nat.zero_add _
      have m3 : i * 3 + 3 ≤ (fC r3C out).length := by omega
      rw [Nat.add_zero] at f0
      have ali : ((i : Nat) : Int) < ((out.length : Nat) : Int) := by omega
      have dm := getD_mem' d0 hlt
      have hsi := hal i hio
      have c := next_r (out.getD i s0).t (out.getD i s0).a (out.getD i s0).st (by omega) (l.getD m d0) (hlr _ dm) (hok _ dm) (by omega)
      rw [nexV_of _ i m] at c
      have hsl : ∀ s ∈ out, s.a.length ≤ 1000000 := fun s hs => by
        obtain ⟨j, hj, rfl⟩ := List.getElem_of_mem hs
        have := (hal j hj).1
        rw [show out.getD j s0 = out[j] by simp [List.getD_eq_getElem?_getD, hj]] at this
        omega
      have ba : (out.length + 1) * 32 ≤ 140737488355328 := by omega
      have lc : out.length * 3 = (fC r3C out).length := fC_len (enc := r3C) (k := 3) (fun _ => rfl) out
      cases hn : nextS (out.getD i s0) i m (l.getD m d0) with
      | none =>
        rw [hn] at c
        rw [addS_none hn] at hC
        generalize out.getD i s0 = s at *
        obtain ⟨st, sa, x1, x2, x3, sn⟩ := s
        generalize l.getD m d0 = d at *
        obtain ⟨df, dl, dt, dr⟩ := d
        simp only [List.getD_cons_zero, List.getD_cons_succ] at c f0 f1 f2
        repeat' first | (refine SW.seq_k fun K hK => ?_) | (refine SW.block ?_) | ((first | refine SW.region ?_ | refine SW.regionZ (id := 8) (Checked.mixed Tryz.checked) ((.one 0 [0, 2, 3, 8, 9, 10, 11, 13, 14] (.one 1 [1, 2, 3, 8, 9, 10, 11, 13, 14] (.one 2 [2, 3, 8, 9, 10, 11, 13, 14] (.one 3 [3, 8, 9, 10, 11, 13, 14] (.one 4 [4, 6, 7, 8, 9, 10, 11, 13, 14] (.one 5 [5, 6, 7, 8, 9, 10, 11, 13, 14] (.one 6 [6, 7, 8, 9, 10, 11, 13, 14] (.one 7 [7, 8, 9, 10, 11, 13, 14] (.one 8 [8, 9, 10, 11, 13, 14] (.one 9 [9, 10, 11, 13, 14] (.one 10 [10, 13, 14] (.alt 11 (.alt 12 (.alt 13 (.one 14 [14] .done) .nil) .nil) (.alt 12 (.alt 11 (.alt 13 (.one 14 [14] .done) .nil) (.alt 13 (.one 11 [11, 14] (.one 14 [14] .done)) .nil)) .nil))))))))))))) : OZ) (by kernel_rfl) ?_ | refine SW.cond ?_ | refine SW.skip ?_ | refine ⟨_, c, ?_⟩ | (refine allF_i fun b hb => ?_; replace hD := And.intro hb hD; clear hb; try simp only [fresh_cons, fresh_nil, and_true, ne_eq, neF] at hD)); try simp only [go_sem, hD, hli, ie, i0, w1, fi, f0, f1, f2, m2, m3, z0, ali, oi0, oie, getN, true_implies]) | ((first | apply hK | (clear hK K; apply hK) | (clear hK K; clear hK K; apply hK)); clear hK K) | (refine And.intro ?_ ?_)
        all_goals
          refine Rnd.le (St.le_only ?_) (Rnd.sub (l.length - (m + 1)) (by omega) ((hI _ _).2 ⟨m + 1, out, ob, rfl, by omega, hO, hio, hC, rfl⟩) (by repeat' (first | exact rfl | exact trivial | exact int_eq (by omega) | exact int_eq (by (rw [i64_wrap] <;> omega)) | constructor)))
          repeat (first | exact List.mem_cons_self | apply List.mem_cons_of_mem)
      | some s' =>
        rw [hn] at c
        have hn3 : s'.a.length ≤ 3 := by
          obtain ⟨_, _, _, _, _, q, e1, e2, _⟩ := nextS_bf hn
          rw [e2, List.length_map, folI_len e1]
          exact hsi.1
        have cf := fun z H hH => find_o ob H out hH s'.t s'.a z (by omega) (by omega) hsl
        by_cases hfd : 0 ≤ findS s'.t s'.a 0 out
        · rw [addS_old hn hfd] at hC
          have nf : ¬ findS s'.t s'.a 0 out < 0 := by omega
          clear hn
          generalize findS s'.t s'.a 0 out = fz at *
          generalize out.getD i s0 = s at *
          obtain ⟨st, sa, x1, x2, x3, sn⟩ := s
          obtain ⟨ut, ua, y1, y2, y3, un⟩ := s'
          generalize l.getD m d0 = d at *
          obtain ⟨df, dl, dt, dr⟩ := d
          simp only [List.getD_cons_zero, List.getD_cons_succ] at c f0 f1 f2 cf
          repeat' first | ((refine Call.mono (cf _ _ (by simp [find_cons, hD])) ?_); (intro r h' hx); (obtain ⟨rfl, rfl⟩ := hx); (simp only [go_sem, hD, nf])) | (refine SW.seq_k fun K hK => ?_) | (refine SW.block ?_) | ((first | refine SW.region ?_ | refine SW.regionZ (id := 8) (Checked.mixed Tryz.checked) ((.one 0 [0, 2, 3, 8, 9, 10, 11, 13, 14] (.one 1 [1, 2, 3, 8, 9, 10, 11, 13, 14] (.one 2 [2, 3, 8, 9, 10, 11, 13, 14] (.one 3 [3, 8, 9, 10, 11, 13, 14] (.one 4 [4, 6, 7, 8, 9, 10, 11, 13, 14] (.one 5 [5, 6, 7, 8, 9, 10, 11, 13, 14] (.one 6 [6, 7, 8, 9, 10, 11, 13, 14] (.one 7 [7, 8, 9, 10, 11, 13, 14] (.one 8 [8, 9, 10, 11, 13, 14] (.one 9 [9, 10, 11, 13, 14] (.one 10 [10, 13, 14] (.alt 11 (.alt 12 (.alt 13 (.one 14 [14] .done) .nil) .nil) (.alt 12 (.alt 11 (.alt 13 (.one 14 [14] .done) .nil) (.alt 13 (.one 11 [11, 14] (.one 14 [14] .done)) .nil)) .nil))))))))))))) : OZ) (by kernel_rfl) ?_ | refine SW.cond ?_ | refine SW.skip ?_ | refine ⟨_, c, ?_⟩ | (refine allF_i fun b hb => ?_; replace hD := And.intro hb hD; clear hb; try simp only [fresh_cons, fresh_nil, and_true, ne_eq, neF] at hD)); try simp only [go_sem, hD, hli, ie, i0, w1, fi, f0, f1, f2, m2, m3, z0, ali, oi0, oie, getN, nf, true_implies]) | ((first | apply hK | (clear hK K; apply hK) | (clear hK K; clear hK K; apply hK)); clear hK K) | (refine And.intro ?_ ?_)
          all_goals
            refine Rnd.le (St.le_only ?_) (Rnd.sub (l.length - (m + 1)) (by omega) ((hI _ _).2 ⟨m + 1, out, ob, rfl, by omega, hO, hio, hC, rfl⟩) (by repeat' (first | exact rfl | exact trivial | exact int_eq (by omega) | exact int_eq (by (rw [i64_wrap] <;> omega)) | constructor)))
            repeat (first | exact List.mem_cons_self | apply List.mem_cons_of_mem)
        · rw [addS_new hn hfd] at hC hnx
          have nf : findS s'.t s'.a 0 out < 0 := by omega
          have hsn : fC r3C (out ++ [s']) = fC r3C out ++ r3C s' := (fC_snoc out s').symm
          have hln : (out ++ [s']).length = out.length + 1 := by rw [List.length_append]; rfl
          clear hn
          generalize findS s'.t s'.a 0 out = fz at *
          generalize out.getD i s0 = s at *
          obtain ⟨st, sa, x1, x2, x3, sn⟩ := s
          obtain ⟨ut, ua, y1, y2, y3, un⟩ := s'
          generalize l.getD m d0 = d at *
          obtain ⟨df, dl, dt, dr⟩ := d
          simp only [List.getD_cons_zero, List.getD_cons_succ] at c f0 f1 f2 cf hsn
          repeat' first | ((refine Call.mono (cf _ _ (by simp [find_cons, hD])) ?_); (intro r h' hx); (obtain ⟨rfl, rfl⟩ := hx); (simp only [go_sem, hD, nf])) | (with_reducible refine And.intro (by omega) ?_) | (refine SW.seq_k fun K hK => ?_) | (refine SW.block ?_) | ((first | refine SW.region ?_ | refine SW.regionZ (id := 8) (Checked.mixed Tryz.checked) ((.one 0 [0, 2, 3, 8, 9, 10, 11, 13, 14] (.one 1 [1, 2, 3, 8, 9, 10, 11, 13, 14] (.one 2 [2, 3, 8, 9, 10, 11, 13, 14] (.one 3 [3, 8, 9, 10, 11, 13, 14] (.one 4 [4, 6, 7, 8, 9, 10, 11, 13, 14] (.one 5 [5, 6, 7, 8, 9, 10, 11, 13, 14] (.one 6 [6, 7, 8, 9, 10, 11, 13, 14] (.one 7 [7, 8, 9, 10, 11, 13, 14] (.one 8 [8, 9, 10, 11, 13, 14] (.one 9 [9, 10, 11, 13, 14] (.one 10 [10, 13, 14] (.alt 11 (.alt 12 (.alt 13 (.one 14 [14] .done) .nil) .nil) (.alt 12 (.alt 11 (.alt 13 (.one 14 [14] .done) .nil) (.alt 13 (.one 11 [11, 14] (.one 14 [14] .done)) .nil)) .nil))))))))))))) : OZ) (by kernel_rfl) ?_ | refine SW.cond ?_ | refine SW.skip ?_ | refine ⟨_, c, ?_⟩ | (refine allF_i fun b hb => ?_; replace hD := And.intro hb hD; clear hb; try simp only [fresh_cons, fresh_nil, and_true, ne_eq, neF] at hD) | simp only [appK, appOsK]); try simp only [go_sem, hD, hli, ie, i0, w1, fi, f0, f1, f2, m2, m3, z0, ali, oi0, oie, getN, nf, ba, lc, true_implies]) | ((first | apply hK | (clear hK K; apply hK) | (clear hK K; clear hK K; apply hK)); clear hK K) | (refine And.intro ?_ ?_)
          all_goals
            obtain ⟨c1, rfl⟩ : ∃ x, x = b := ⟨_, rfl⟩
            rw [← hln]
            (first | rw [show fC r3C out ++ [Str ut, IL ua, I64 un] = fC r3C (out ++ [⟨ut, ua, y1, y2, y3, un⟩]) from hsn.symm] | skip)
            refine Rnd.le (St.le_only ?_) (Rnd.sub (l.length - (m + 1)) (by omega) ((hI _ _).2 ⟨m + 1, out ++ [⟨ut, ua, y1, y2, y3, un⟩], c1, rfl, by omega, hnx, (by omega), hC, rfl⟩) (by repeat' (first | exact rfl | exact trivial | exact int_eq (by omega) | exact int_eq (by (rw [i64_wrap] <;> omega)) | constructor)))
            repeat (first | exact List.mem_cons_self | apply List.mem_cons_of_mem)
    · have hli : ¬ ((m : Nat) : Int) < (((l.length) : Nat) : Int) := by omega
      rw [List.drop_of_length_le (by omega)] at hC
      have hC2 : F = bfs l (20000 - (i + 1)) (i + 1) out := hC
      repeat' first | (refine SW.seq_k fun K hK => ?_) | ((first | refine SW.region ?_ | refine SW.cond ?_ | refine SW.exit ?_); try simp only [go_sem, hD, hli, ow1]) | ((first | apply hK | (clear hK K; apply hK) | (clear hK K; clear hK K; apply hK)); clear hK K)
      refine Rnd.sub (20000 - (i + 1)) (by omega) ((hIO _ _).2 ⟨i + 1, out, ob, rfl, by omega, hO, by omega, hC2, rfl⟩) (by repeat' (first | exact rfl | exact trivial | exact int_eq (by omega) | exact int_eq (by (rw [i64_wrap] <;> omega)) | constructor))
  · have hli : ¬ ((i : Nat) : Int) < ((out.length : Nat) : Int) := by omega
    have hF2 : F = out := by
      rw [hC, show 20000 - i = (20000 - (i + 1)) + 1 by omega, bfs, if_neg hlt]
    subst hF2
    repeat' first | (refine SW.seq_k fun K hK => ?_) | ((first | refine SW.region ?_ | refine SW.cond ?_ | refine SW.exit ?_ | refine SW.ret ?_); try simp only [go_sem, hD, hli, true_implies]) | ((first | apply hK | (clear hK K; apply hK) | (clear hK K; clear hK K; apply hK)); clear hK K)
    refine retQ_le (St.le_freeze (i := 4) (b := ob) (off := 0) (len := F.length) (sz := 3) (k := .svs (fC r3C F)) rfl (by rw [find_cons, if_pos rfl]) (by show 0 + F.length * 3 ≤ (fC r3C F).length; rw [← fC_len (enc := r3C) (k := 3) (fun _ => rfl)]; omega) (r3F F) (fun j hj => ?_)) ?_
    · rw [getN_take _ _ _ (by show 0 + j * 3 + 3 ≤ (fC r3C F).length; have := fC_lt (enc := r3C) (k := 3) (fun _ => rfl) hj (show 2 < 3 by omega); omega), Nat.zero_add]
      exact fC_at (enc := r3C) (k := 3) (fun _ => rfl) s0 F j hj
    · simp only [resL_tmp, resL_nil, tupOf, del_cons, go_sem, hD]

theorem dist_r (l : List Dp) (g : Dp) (nm : List ByteArray) (hs : Small l g nm) (hok : OkL l) (hll : l.length ≤ 1000000) (hgr : g.r.length ≤ 1000000) : PCall Tryz.prog 14 [DpL l, DV g] (I64 (distS l g)) := by
  have cs := states_r l g nm hs hok hll
  have hB := hs.bds
  have hfin := (states_ok hB).1
  have hFl := hB _ hfin
  have hall := hfin.all hs
  have hg3 := hs.g3
  have hsl : ∀ s ∈ states l g, s.a.length ≤ 1000000 := fun s hs => by
    obtain ⟨j, hj, rfl⟩ := List.getElem_of_mem hs
    have := (hall j hj).2.2
    rw [show (states l g).getD j s0 = (states l g)[j] by simp [List.getD_eq_getElem?_getD, hj]] at this
    omega
  have cf := find_r (states l g) g.t g.r 0 (by omega) hgr hsl
  have his := @findS_is g.t g.r (states l g) 0
  unfold distS
  generalize states l g = F at *
  obtain ⟨z, hz⟩ : ∃ z, findS g.t g.r 0 F = z := ⟨_, rfl⟩
  rw [hz] at cf his ⊢
  obtain ⟨gf, gl, gt, gr⟩ := g
  simp only at cf
  by_cases hn : z < 0
  · rw [if_pos hn]
    refine Call.enter' (N := 24) (rs := [.tmp 4]) Tryz.func14 rfl rfl rfl (by decide) rfl ?_; simp only [argT]; have hD : (0 : Nat) = 0 := rfl
    repeat' first | (refine SW.seq_k fun K hK => ?_) | ((first | refine SW.region ?_ | refine SW.cond ?_ | refine SW.ret ?_ | refine Call.of_pure (cs) ?_ | refine Call.of_pure (cf) ?_ | (refine allF_i fun b hb => ?_; replace hD := And.intro hb hD; clear hb; try simp only [fresh_cons, fresh_nil, and_true, ne_eq, neF] at hD)); try simp only [go_sem, hD, hn]) | ((first | apply hK | (clear hK K; apply hK) | (clear hK K; clear hK K; apply hK)); clear hK K)
    refine ret_pure ?_; simp only [resL_tmp, resL_nil, tupOf, go_sem, hD]
  · rw [if_neg hn]
    obtain ⟨j, e1, e2, _⟩ := his (by omega)
    have j0 : (0 : Int) ≤ z := by omega
    have jl : z < ((F.length : Nat) : Int) := by omega
    have fj : r3F F z.toNat = r3C (F.getD z.toNat s0) := rfl
    generalize F.getD z.toNat s0 = s at *
    obtain ⟨st, sa, x1, x2, x3, sn⟩ := s
    refine Call.enter' (N := 24) (rs := [.tmp 4]) Tryz.func14 rfl rfl rfl (by decide) rfl ?_; simp only [argT]; have hD : (0 : Nat) = 0 := rfl
    repeat' first | (refine SW.seq_k fun K hK => ?_) | ((first | refine SW.region ?_ | refine SW.cond ?_ | refine SW.skip ?_ | refine SW.ret ?_ | refine Call.of_pure (cs) ?_ | refine Call.of_pure (cf) ?_ | (refine allF_i fun b hb => ?_; replace hD := And.intro hb hD; clear hb; try simp only [fresh_cons, fresh_nil, and_true, ne_eq, neF] at hD)); try simp only [go_sem, hD, hn, j0, jl, fj]) | ((first | apply hK | (clear hK K; apply hK) | (clear hK K; clear hK K; apply hK)); clear hK K)
    refine ret_pure ?_; simp only [resL_tmp, resL_nil, tupOf, go_sem, hD]
end Go.Proofs.YtblfodnajpamfaaGreatDoor
/- Contracts: the states of the program. -/
namespace Go.Ab.A15
open Go Go.Ab Go.Ab.A34
def s5F (l : List Sn) (i : Nat) : List SV := sC (l.getD i s0)
theorem folV_of (s : Sn) (i k : Nat) (d : Dp) : folV s.t s.a k d = match nextS s i k d with
    | none => .tup [.agg [Str ⟨#[]⟩, SN, I64 0, I64 0, SN], SB false]
    | some s' => .tup [.agg [Str s'.t, IL s'.a, I64 0, I64 k, IL s'.ps], SB true] := by
  unfold folV nextS
  by_cases h : s.t = d.f
  · rw [if_pos h, if_pos h]
    cases folI d s.a with
    | none => rfl
    | some q => rfl
  · rw [if_neg h, if_neg h]
theorem findS_m1 {t : ByteArray} {a : List Int} : ∀ {l : List Sn} {i : Nat}, findS t a i l < 0 → findS t a i l = -1
  | [], i, _ => rfl
  | y :: l, i, h => by
    unfold findS at h ⊢
    by_cases h1 : y.t = t ∧ y.a = a
    · rw [if_pos h1] at h; omega
    · rw [if_neg h1] at h ⊢; exact findS_m1 h
theorem name_size {l : List UInt8} (h : nameB l = true) : l.length ≤ 24 := by
  cases l with
  | nil => simp
  | cons c r =>
    unfold nameB at h
    simp only [Bool.and_eq_true, decide_eq_true_eq] at h
    exact h.1.1.1
theorem nm_size {t : ByteArray} (h : nameB t.data.toList = true) : t.size ≤ 24 := by
  have := name_size h
  rwa [Array.length_toList] at this
end Go.Ab.A15
namespace Go.Proofs.YtblfodnajpamfaaGreatDoor
open Go Go.Ab Go.Ab.A34 Go.Ab.A15
variable [Gl] [Tabs]

set_option maxHeartbeats 8000000 in
set_option maxRecDepth 20000 in
theorem states_p (l : List Dp) (g : Dp) (nm : List ByteArray) (hs : Small l g nm) (hnm : ∀ t ∈ nm, nameB t.data.toList = true) (hok : OkL l) (hll : l.length ≤ 1000000) (hgt : g.t ∈ nm) (hgr : In16 g.r) (hgrl : g.r.length ≤ 1000) :
    PCall Tryz.prog 39 [DpL l, DV g] (.tup [.fl (states l g).length 5 (s5F (states l g)), I64 (findS g.t g.r 0 (states l g)), I64 0]) := by
  have hB := hs.bds
  have hfin := (states_ok hB).1
  obtain ⟨F, hF⟩ : ∃ F, F = states l g := ⟨_, rfl⟩
  rw [← hF] at hfin ⊢
  have hFl := hB F hfin
  have hroot := Ivs.root l g
  have hall := fun out (h : Ivs l g out) => h.all hs
  have hadd := fun out i m (h : Ivs l g out) (hi : i < out.length) (hm : m < l.length) => (h.add hi hm).1
  have hg3 := hs.g3
  have hlr := hs.lr
  have hlt' := hs.lt
  have hr16 := hs.r16
  unfold states at hF
  have ngt := hnm _ hgt
  have cen := name_p g.t g.r 0 0 SN rfl (by have := nm_size ngt; omega) hgr hgrl
  have ngf := hnm _ hs.gf
  have cro := name_p g.f g.l (-1) 0 SN rfl (by have := nm_size ngf; omega) hs.gl (by omega)
  have ms0 : mset (.string (nameS g.f g.l)) (.int .i64 0) [] none = mapF 0 [root g] := rfl
  have mf0 : ∀ a, mfI .s a [] 0 = some none := fun _ => rfl
  obtain ⟨rt, hrt⟩ : ∃ rt, rt = root g := ⟨_, rfl⟩
  have hrc : fC sC [rt] = [Str g.f, IL g.l, I64 (-1), I64 0, IL []] := by rw [hrt]; rfl
  rw [← hrt] at hF hroot ms0
  clear hrt
  obtain ⟨Q, hQ⟩ : ∃ Q : List Sn → Prop, ∀ o, Q o ↔ Ivs l g o := ⟨_, fun _ => Iff.rfl⟩
  have hBQ : ∀ o, Q o → o.length < 20000 := fun o h => hB o ((hQ o).1 h)
  have hallQ : ∀ o, Q o → ∀ j, j < o.length → (o.getD j s0).a.length ≤ 3 ∧ In16 (o.getD j s0).a ∧ nameB (o.getD j s0).t.data.toList = true := fun o h j hj => by
    have h' := (hQ o).1 h
    have h4 := hall o h' j hj
    exact ⟨by omega, h4.2.1, hnm _ h4.1⟩
  have hmem : ∀ o, Q o → ∀ s ∈ o, nameB s.t.data.toList = true ∧ In16 s.a := fun o h s hs => by
    obtain ⟨j, hj, rfl⟩ := List.getElem_of_mem hs
    have := hallQ o h j hj
    rw [show o.getD j s0 = o[j] by simp [List.getD_eq_getElem?_getD, hj]] at this
    exact ⟨this.2.2, this.2.1⟩
  have haddQ : ∀ o i m, Q o → i < o.length → m < l.length → Q (addS i m (l.getD m d0) o) := fun o i m h hi hm => (hQ _).2 (hadd o i m ((hQ o).1 h) hi hm)
  have hrQ : Q [rt] := (hQ _).2 hroot
  have hFQ : Q F := (hQ _).2 hfin
  have mfe := mfI_find ngt hgr F 0 (hmem F hFQ)
  clear hB hfin hall hadd hroot hQ hs
  obtain ⟨gf, gl, gt, gr⟩ := g
  simp only at hrc hg3 cen cro ms0 mfe ngt hgr
  refine Call.enter' (N := 95) (rs := [.tmp 4, .tmp 5, .tmp 6]) Tryz.func39 rfl rfl rfl (by decide) rfl ?_; simp only [argT]; have hD : (0 : Nat) = 0 := rfl
  repeat' first | (with_reducible refine And.intro (by omega) ?_) | (refine SW.seq_k fun K hK => ?_) | (refine SW.block ?_) | ((first | refine SW.region ?_ | refine Call.of_pure (cen) ?_ | refine Call.of_pure (cro) ?_ | (refine allF_i fun b hb => ?_; replace hD := And.intro hb hD; clear hb; try simp only [fresh_cons, fresh_nil, and_true, ne_eq, neF] at hD)); try simp only [go_sem, hD, ms0, mf0, true_implies]) | ((first | apply hK | (clear hK K; apply hK) | (clear hK K; clear hK K; apply hK)); clear hK K)
  obtain ⟨mb, rfl⟩ : ∃ x, x = b := ⟨_, rfl⟩
  obtain ⟨ob, rfl⟩ : ∃ x, x = b := ⟨_, rfl⟩
  have e1 : ¬ mb = ob := by simp [hD]
  have e2 : ¬ ob = mb := by simp [hD]
  refine Ab.SW.le (St.le_pick [(mb, .mp (mapF 0 [rt])), (ob, .svs [Str gf, IL gl, I64 (-1), I64 0, SN])] ?_ ?_) ?_
  · repeat' (first | exact (fun x hx => (List.not_mem_nil hx).elim) | refine List.forall_mem_cons.2 ⟨?_, ?_⟩ | exact List.mem_cons_self | apply List.mem_cons_of_mem)
  · simp [fresh_cons, fresh_nil, hD]
  refine Ab.SW.le (St.le_nilC (c := ob) (j := 4) (sz := 1) (f := iF []) (by rw [find_cons, if_neg e1, find_cons, if_pos rfl]) (by show 4 < 5; omega) rfl) ?_
  rw [upd_cons, if_neg e1, upd_cons, if_pos rfl]
  rw [show [Str gf, IL gl, I64 (-1), I64 0, SN].set 4 (.fl 0 1 (iF [])) = fC sC [rt] from hrc.symm]
  obtain ⟨I, hI⟩ : ∃ I : Nat → St → Prop, ∀ k S, I k S ↔ (∃ (i : Nat) (out : List Sn) (ob : Nat), k = 20000 - i ∧ i ≤ 20000 ∧ Q out ∧ i ≤ out.length ∧ F = bfs l (20000 - i) i out ∧ ¬ mb = ob ∧ ¬ ob = mb ∧ S = ⟨[(0, DpL l), (7, .os ob 0 out.length 5), (8, Str (nameS gt gr)), (9, .mp mb), (10, I64 i)], [(mb, .mp (mapF 0 out)), (ob, .svs (fC sC out))]⟩) := ⟨fun k S => _, fun _ _ => Iff.rfl⟩
  refine SW.loop' I (20000) ((hI _ _).2 ⟨0, [rt], ob, rfl, Nat.zero_le _, hrQ, (by show 0 ≤ 1; omega), hF, e1, e2, rfl⟩) (by repeat' (first | exact rfl | exact trivial | exact int_eq (by omega) | exact int_eq (by (rw [i64_wrap] <;> omega)) | constructor)) ?_
  intro k S hIn
  obtain ⟨i, out, ob, rfl, hi, hO, hio, hC, e1, e2, rfl⟩ := (hI _ _).1 hIn
  clear hIn
  have ie : ((i : Nat) : Int).toNat = i := Int.toNat_natCast _
  have i0 : (0 : Int) ≤ ((i : Nat) : Int) := by omega
  clear hF hrc
  have hol := hBQ out hO
  by_cases hlt : i < out.length
  · have hli : ((i : Nat) : Int) < ((out.length : Nat) : Int) := by omega
    have w1 : IntKind.i64.wrap ((i : Int) + 1) = ((i + 1 : Nat) : Int) := by rw [i64_wrap (by omega) (by omega)]; omega
    have hF2 : F = bfs l (20000 - (i + 1)) (i + 1) (rndS i 0 (l.drop 0) out) := by
      rw [hC, show 20000 - i = (20000 - (i + 1)) + 1 by omega, bfs, if_pos hlt, List.drop_zero]
    clear hC
    have hD := And.intro (eq_false e1) (eq_false e2)
    repeat' first | (refine SW.seq_k fun K hK => ?_) | (refine SW.block ?_) | ((first | refine SW.region ?_ | refine SW.cond ?_ | refine SW.skip ?_); try simp only [go_sem, hD, hli, true_implies]) | ((first | apply hK | (clear hK K; apply hK) | (clear hK K; clear hK K; apply hK)); clear hK K)
    have hIO := hI
    have ow1 := w1
    have oi0 := i0
    have oie := ie
    clear hI
    obtain ⟨I, hI⟩ : ∃ I : Nat → St → Prop, ∀ k S, I k S ↔ (∃ (m : Nat) (out : List Sn) (ob : Nat), k = l.length - m ∧ m ≤ l.length ∧ Q out ∧ i < out.length ∧ F = bfs l (20000 - (i + 1)) (i + 1) (rndS i m (l.drop m) out) ∧ ¬ mb = ob ∧ ¬ ob = mb ∧ S = ⟨[(0, DpL l), (7, .os ob 0 out.length 5), (8, Str (nameS gt gr)), (9, .mp mb), (10, I64 i), (43, DpL l), (44, I64 l.length), (45, I64 m)], [(mb, .mp (mapF 0 out)), (ob, .svs (fC sC out))]⟩) := ⟨fun k S => _, fun _ _ => Iff.rfl⟩
    refine SW.loop' I (l.length) ((hI _ _).2 ⟨0, out, ob, rfl, Nat.zero_le _, hO, hlt, hF2, e1, e2, rfl⟩) (by repeat' (first | exact rfl | exact trivial | exact int_eq (by omega) | exact int_eq (by (rw [i64_wrap] <;> omega)) | constructor)) ?_
    intro k S hIn
    obtain ⟨m, out, ob, rfl, hi, hO, hio, hC, e1, e2, rfl⟩ := (hI _ _).1 hIn
    clear hIn
    have ie : ((m : Nat) : Int).toNat = m := Int.toNat_natCast _
    have i0 : (0 : Int) ≤ ((m : Nat) : Int) := by omega
    clear hF2
    have hD := And.intro (eq_false e1) (eq_false e2)
    by_cases hlt : m < l.length
    · have hli : ((m : Nat) : Int) < (((l.length) : Nat) : Int) := by omega
      have w1 : IntKind.i64.wrap ((m : Int) + 1) = ((m + 1 : Nat) : Int) := by rw [i64_wrap (by omega) (by omega)]; omega
      rw [rndS_step hlt] at hC
      have hol := hBQ out hO
      have hnx := haddQ out i m hO hio hlt
      have hal := hallQ out hO
      have fi : dpF l m = dC (l.getD m d0) := rfl
      have f0 := fC_get (enc := sC) (k := 5) (fun _ => rfl) s0 hio (show 0 < 5 by omega)
      have f1 := fC_get (enc := sC) (k := 5) (fun _ => rfl) s0 hio (show 1 < 5 by omega)
      have f2 := fC_get (enc := sC) (k := 5) (fun _ => rfl) s0 hio (show 2 < 5 by omega)
      have f3 := fC_get (enc := sC) (k := 5) (fun _ => rfl) s0 hio (show 3 < 5 by omega)
      have f4 := fC_get (enc := sC) (k := 5) (fun _ => rfl) s0 hio (show 4 < 5 by omega)
      have m2 := fC_lt (enc := sC) (k := 5) (fun _ => rfl) hio (show 4 < 5 by omega)
      have z0 : 0 + i * 5 = i * 5 := Nat.zero_add _
      have m3 : i * 5 + 5 ≤ (fC sC out).length := by omega
      rw [Nat.add_zero] at f0
      have ali : ((i : Nat) : Int) < ((out.length : Nat) : Int) := by omega
      have ne20 : ¬ ((out.length : Nat) : Int) = 20000 := by omega
      have dm := getD_mem' d0 hlt
      have hsi := hal i hio
      have c := follow_p (out.getD i s0).t (out.getD i s0).a (out.getD i s0).bf (out.getD i s0).ix (IL (out.getD i s0).ps) rfl m (l.getD m d0) (hlr _ dm) (hok _ dm) (by omega)
      rw [folV_of _ i m] at c
      have ba : (out.length + 1) * 64 ≤ 140737488355328 := by omega
      have lc : out.length * 5 = (fC sC out).length := fC_len (enc := sC) (k := 5) (fun _ => rfl) out
      have hr16m := hr16 _ dm
      have hlrm := hlr _ dm
      have hltm := hnm _ (hlt' _ dm)
      cases hn : nextS (out.getD i s0) i m (l.getD m d0) with
      | none =>
        rw [hn] at c
        rw [addS_none hn] at hC
        generalize out.getD i s0 = s at *
        obtain ⟨st, sa, x1, x2, x3, sn⟩ := s
        generalize l.getD m d0 = d at *
        obtain ⟨df, dl, dt, dr⟩ := d
        simp only [List.getD_cons_zero, List.getD_cons_succ] at c f0 f1 f2 f3 f4
        repeat' first | (refine SW.seq_k fun K hK => ?_) | (refine SW.block ?_) | ((first | refine SW.region ?_ | refine SW.regionZ (id := 10) (Checked.mixed Tryz.checked) ((.one 0 [0, 2, 3, 6, 7, 8, 9, 11, 12] (.one 1 [1, 2, 3, 6, 7, 8, 9, 11, 12] (.one 2 [2, 3, 6, 7, 8, 9, 11, 12] (.one 3 [3, 6, 7, 8, 9, 11, 12] (.one 4 [4, 6, 7, 8, 9, 11, 12] (.one 5 [5, 6, 7, 8, 9, 11, 12] (.one 6 [6, 7, 8, 9, 11, 12] (.one 7 [7, 8, 9, 11, 12] (.one 8 [8, 11, 12] (.alt 9 (.alt 10 (.alt 11 (.one 12 [12] .done) .nil) .nil) (.alt 10 (.alt 9 (.alt 11 (.one 12 [12] .done) .nil) (.alt 11 (.one 9 [9, 12] (.one 12 [12] .done)) .nil)) .nil))))))))))) : OZ) (by kernel_rfl) ?_ | refine SW.cond ?_ | refine SW.skip ?_ | refine SW.exit ?_ | refine ⟨_, c, ?_⟩ | (refine allF_i fun b hb => ?_; replace hD := And.intro hb hD; clear hb; try simp only [fresh_cons, fresh_nil, and_true, ne_eq, neF] at hD)); try simp only [go_sem, hD, hli, ie, i0, w1, fi, f0, f1, f2, f3, f4, m2, m3, z0, ali, oi0, oie, getN, true_implies]) | ((first | apply hK | (clear hK K; apply hK) | (clear hK K; clear hK K; apply hK)); clear hK K) | (refine And.intro ?_ ?_)
        all_goals
          refine Rnd.le (St.le_pick _ ?_ ?_) (Rnd.sub (l.length - (m + 1)) (by omega) ((hI _ _).2 ⟨m + 1, out, ob, rfl, by omega, hO, hio, hC, e1, e2, rfl⟩) (by repeat' (first | exact rfl | exact trivial | exact int_eq (by omega) | exact int_eq (by (rw [i64_wrap] <;> omega)) | constructor)))
          · repeat' (first | exact (fun x hx => (List.not_mem_nil hx).elim) | refine List.forall_mem_cons.2 ⟨?_, ?_⟩ | exact List.mem_cons_self | apply List.mem_cons_of_mem)
          · simp [fresh_cons, fresh_nil, hD]
      | some s' =>
        rw [hn] at c
        obtain ⟨b1, b2, b3, b4, b5, q, q1, q2, q3⟩ := nextS_bf hn
        have hn3 : s'.a.length ≤ 3 := by rw [q2, List.length_map, folI_len q1]; exact hsi.1
        have hn16 : In16 s'.a := fun x hx => by
          rw [q2] at hx
          obtain ⟨p, hp, rfl⟩ := List.mem_map.1 hx
          obtain ⟨j, _, hj, e⟩ := folI_mem q1 p hp
          rw [e]
          exact hr16m _ (getD_mem' 0 (by rw [← hlrm]; exact hj))
        have hnt : nameB s'.t.data.toList = true := by rw [b3]; exact hltm
        have cn := fun z1 z2 => name_p s'.t s'.a z1 z2 (IL s'.ps) rfl (by have := nm_size hnt; omega) hn16 (by omega)
        have mfk := mfI_find hnt hn16 out 0 (hmem out hO)
        by_cases hfd : 0 ≤ findS s'.t s'.a 0 out
        · rw [addS_old hn hfd] at hC
          unfold mres at mfk
          rw [if_neg (by omega)] at mfk
          clear hn q1 q2 q3 b3 b4 b5
          generalize nameS s'.t s'.a = nmv at *
          generalize findS s'.t s'.a 0 out = fz at *
          generalize out.getD i s0 = s at *
          obtain ⟨st, sa, x1, x2, x3, sn⟩ := s
          obtain ⟨ut, ua, y1, y2, y3, un⟩ := s'
          generalize l.getD m d0 = d at *
          obtain ⟨df, dl, dt, dr⟩ := d
          simp only [List.getD_cons_zero, List.getD_cons_succ] at c f0 f1 f2 f3 f4 cn
          repeat' first | (refine SW.seq_k fun K hK => ?_) | (refine SW.block ?_) | ((first | refine SW.region ?_ | refine SW.regionZ (id := 10) (Checked.mixed Tryz.checked) ((.one 0 [0, 2, 3, 6, 7, 8, 9, 11, 12] (.one 1 [1, 2, 3, 6, 7, 8, 9, 11, 12] (.one 2 [2, 3, 6, 7, 8, 9, 11, 12] (.one 3 [3, 6, 7, 8, 9, 11, 12] (.one 4 [4, 6, 7, 8, 9, 11, 12] (.one 5 [5, 6, 7, 8, 9, 11, 12] (.one 6 [6, 7, 8, 9, 11, 12] (.one 7 [7, 8, 9, 11, 12] (.one 8 [8, 11, 12] (.alt 9 (.alt 10 (.alt 11 (.one 12 [12] .done) .nil) .nil) (.alt 10 (.alt 9 (.alt 11 (.one 12 [12] .done) .nil) (.alt 11 (.one 9 [9, 12] (.one 12 [12] .done)) .nil)) .nil))))))))))) : OZ) (by kernel_rfl) ?_ | refine SW.cond ?_ | refine SW.skip ?_ | refine SW.exit ?_ | refine ⟨_, c, ?_⟩ | refine Call.of_pure (cn _ _) ?_ | (refine allF_i fun b hb => ?_; replace hD := And.intro hb hD; clear hb; try simp only [fresh_cons, fresh_nil, and_true, ne_eq, neF] at hD)); try simp only [go_sem, hD, hli, ie, i0, w1, fi, f0, f1, f2, f3, f4, m2, m3, z0, ali, oi0, oie, getN, mfk, true_implies]) | ((first | apply hK | (clear hK K; apply hK) | (clear hK K; clear hK K; apply hK)); clear hK K) | (refine And.intro ?_ ?_)
          all_goals
            refine Rnd.le (St.le_pick _ ?_ ?_) (Rnd.sub (l.length - (m + 1)) (by omega) ((hI _ _).2 ⟨m + 1, out, ob, rfl, by omega, hO, hio, hC, e1, e2, rfl⟩) (by repeat' (first | exact rfl | exact trivial | exact int_eq (by omega) | exact int_eq (by (rw [i64_wrap] <;> omega)) | constructor)))
            · repeat' (first | exact (fun x hx => (List.not_mem_nil hx).elim) | refine List.forall_mem_cons.2 ⟨?_, ?_⟩ | exact List.mem_cons_self | apply List.mem_cons_of_mem)
            · simp [fresh_cons, fresh_nil, hD]
        · rw [addS_new hn hfd] at hC hnx
          unfold mres at mfk
          rw [if_pos (by omega)] at mfk
          have hsn : fC sC (out ++ [s']) = fC sC out ++ sC s' := (fC_snoc out s').symm
          have hln : (out ++ [s']).length = out.length + 1 := by rw [List.length_append]; rfl
          have mst : mset (.string (nameS s'.t s'.a)) (.int .i64 (out.length : Nat)) (mapF 0 out) none = mapF 0 (out ++ [s']) := by
            rw [mapF_app, Nat.zero_add]
            rfl
          clear hn q1 q2 q3 b3 b4 b5
          generalize nameS s'.t s'.a = nmv at *
          generalize findS s'.t s'.a 0 out = fz at *
          generalize out.getD i s0 = s at *
          obtain ⟨st, sa, x1, x2, x3, sn⟩ := s
          obtain ⟨ut, ua, y1, y2, y3, un⟩ := s'
          simp only at b1 b2
          have b2' := b2.symm
          subst b1 b2'
          generalize l.getD m d0 = d at *
          obtain ⟨df, dl, dt, dr⟩ := d
          simp only [List.getD_cons_zero, List.getD_cons_succ] at c f0 f1 f2 f3 f4 cn hsn
          repeat' first | (with_reducible refine And.intro (by omega) ?_) | (refine SW.seq_k fun K hK => ?_) | (refine SW.block ?_) | ((first | refine SW.region ?_ | refine SW.regionZ (id := 10) (Checked.mixed Tryz.checked) ((.one 0 [0, 2, 3, 6, 7, 8, 9, 11, 12] (.one 1 [1, 2, 3, 6, 7, 8, 9, 11, 12] (.one 2 [2, 3, 6, 7, 8, 9, 11, 12] (.one 3 [3, 6, 7, 8, 9, 11, 12] (.one 4 [4, 6, 7, 8, 9, 11, 12] (.one 5 [5, 6, 7, 8, 9, 11, 12] (.one 6 [6, 7, 8, 9, 11, 12] (.one 7 [7, 8, 9, 11, 12] (.one 8 [8, 11, 12] (.alt 9 (.alt 10 (.alt 11 (.one 12 [12] .done) .nil) .nil) (.alt 10 (.alt 9 (.alt 11 (.one 12 [12] .done) .nil) (.alt 11 (.one 9 [9, 12] (.one 12 [12] .done)) .nil)) .nil))))))))))) : OZ) (by kernel_rfl) ?_ | refine SW.cond ?_ | refine SW.skip ?_ | refine ⟨_, c, ?_⟩ | refine Call.of_pure (cn _ _) ?_ | (refine allF_i fun b hb => ?_; replace hD := And.intro hb hD; clear hb; try simp only [fresh_cons, fresh_nil, and_true, ne_eq, neF] at hD) | simp only [appK, appOsK]); try simp only [go_sem, hD, hli, ie, i0, w1, fi, f0, f1, f2, f3, f4, m2, m3, z0, ali, oi0, oie, getN, mfk, mst, ne20, ba, lc, true_implies]) | ((first | apply hK | (clear hK K; apply hK) | (clear hK K; clear hK K; apply hK)); clear hK K) | (refine And.intro ?_ ?_)
          all_goals
            obtain ⟨c1, rfl⟩ : ∃ x, x = b := ⟨_, rfl⟩
            have e3 : ¬ mb = c1 := by simp [hD]
            have e4 : ¬ c1 = mb := by simp [hD]
            rw [← hln]
            (first | rw [show fC sC out ++ [Str ut, IL ua, I64 i, I64 m, IL y3] = fC sC (out ++ [⟨ut, ua, i, m, y3, un⟩]) from hsn.symm] | skip)
            refine Rnd.le (St.le_pick _ ?_ ?_) (Rnd.sub (l.length - (m + 1)) (by omega) ((hI _ _).2 ⟨m + 1, out ++ [⟨ut, ua, i, m, y3, un⟩], c1, rfl, by omega, hnx, (by omega), hC, e3, e4, rfl⟩) (by repeat' (first | exact rfl | exact trivial | exact int_eq (by omega) | exact int_eq (by (rw [i64_wrap] <;> omega)) | constructor)))
            · repeat' (first | exact (fun x hx => (List.not_mem_nil hx).elim) | refine List.forall_mem_cons.2 ⟨?_, ?_⟩ | exact List.mem_cons_self | apply List.mem_cons_of_mem)
            · simp [fresh_cons, fresh_nil, hD]
    · have hli : ¬ ((m : Nat) : Int) < (((l.length) : Nat) : Int) := by omega
      rw [List.drop_of_length_le (by omega)] at hC
      have hC2 : F = bfs l (20000 - (i + 1)) (i + 1) out := hC
      repeat' first | (refine SW.seq_k fun K hK => ?_) | ((first | refine SW.region ?_ | refine SW.cond ?_ | refine SW.exit ?_); try simp only [go_sem, hD, hli, ow1]) | ((first | apply hK | (clear hK K; apply hK) | (clear hK K; clear hK K; apply hK)); clear hK K)
      refine Rnd.sub (20000 - (i + 1)) (by omega) ((hIO _ _).2 ⟨i + 1, out, ob, rfl, by omega, hO, by omega, hC2, e1, e2, rfl⟩) (by repeat' (first | exact rfl | exact trivial | exact int_eq (by omega) | exact int_eq (by (rw [i64_wrap] <;> omega)) | constructor))
  · have hli : ¬ ((i : Nat) : Int) < ((out.length : Nat) : Int) := by omega
    have hF2 : F = out := by
      rw [hC, show 20000 - i = (20000 - (i + 1)) + 1 by omega, bfs, if_neg hlt]
    subst hF2
    have hD := And.intro (eq_false e1) (eq_false e2)
    have hz : findS gt gr 0 F < 0 → findS gt gr 0 F = -1 := findS_m1
    generalize findS gt gr 0 F = z at *
    unfold mres at mfe
    by_cases hzn : z < 0
    · rw [if_pos hzn] at mfe
      have hz1 := hz hzn
      repeat' first | (refine SW.seq_k fun K hK => ?_) | ((first | refine SW.region ?_ | refine SW.cond ?_ | refine SW.exit ?_ | refine SW.ret ?_); try simp only [go_sem, hD, hli, mfe, true_implies]) | ((first | apply hK | (clear hK K; apply hK) | (clear hK K; clear hK K; apply hK)); clear hK K)
      refine retQ_le ((St.le_freeze (i := 4) (b := ob) (off := 0) (len := F.length) (sz := 5) (k := .svs (fC sC F)) rfl (by rw [find_cons, if_neg e1, find_cons, if_pos rfl]) (by show 0 + F.length * 5 ≤ (fC sC F).length; rw [← fC_len (enc := sC) (k := 5) (fun _ => rfl)]; omega) (s5F F) (fun j hj => ?_)).trans St.le_drop) ?_
      · rw [getN_take _ _ _ (by show 0 + j * 5 + 5 ≤ (fC sC F).length; have := fC_lt (enc := sC) (k := 5) (fun _ => rfl) hj (show 4 < 5 by omega); omega), Nat.zero_add]
        exact fC_at (enc := sC) (k := 5) (fun _ => rfl) s0 F j hj
      · simp only [resL_tmp, resL_nil, tupOf, go_sem, hD]
        first | rw [hz1] | skip
    · rw [if_neg hzn] at mfe
      repeat' first | (refine SW.seq_k fun K hK => ?_) | ((first | refine SW.region ?_ | refine SW.cond ?_ | refine SW.skip ?_ | refine SW.exit ?_ | refine SW.ret ?_); try simp only [go_sem, hD, hli, mfe, true_implies]) | ((first | apply hK | (clear hK K; apply hK) | (clear hK K; clear hK K; apply hK)); clear hK K)
      refine retQ_le ((St.le_freeze (i := 4) (b := ob) (off := 0) (len := F.length) (sz := 5) (k := .svs (fC sC F)) rfl (by rw [find_cons, if_neg e1, find_cons, if_pos rfl]) (by show 0 + F.length * 5 ≤ (fC sC F).length; rw [← fC_len (enc := sC) (k := 5) (fun _ => rfl)]; omega) (s5F F) (fun j hj => ?_)).trans St.le_drop) ?_
      · rw [getN_take _ _ _ (by show 0 + j * 5 + 5 ≤ (fC sC F).length; have := fC_lt (enc := sC) (k := 5) (fun _ => rfl) hj (show 4 < 5 by omega); omega), Nat.zero_add]
        exact fC_at (enc := sC) (k := 5) (fun _ => rfl) s0 F j hj
      · simp only [resL_tmp, resL_nil, tupOf, go_sem, hD]
end Go.Proofs.YtblfodnajpamfaaGreatDoor
