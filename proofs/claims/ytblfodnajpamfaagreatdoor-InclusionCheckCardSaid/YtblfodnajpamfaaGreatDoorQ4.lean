/- Several texts in one: CC, CD, J1, J2, DA, DB. -/
import Derived.Test.YtblfodnajpamfaaGreatDoorQ3
import Derived.Test.YtblfodnajpamfaaGreatDoorZ10
import Derived.Test.YtblfodnajpamfaaGreatDoorQ1
import Derived.Test.YtblfodnajpamfaaGreatDoorZ17
import Derived.Test.YtblfodnajpamfaaGreatDoorZ18
set_option linter.unusedSimpArgs false
set_option linter.unusedVariables false
set_option linter.unusedSectionVars false
set_option maxHeartbeats 8000000
set_option maxRecDepth 20000
def Go.Ab.zCC_1 : Go.Ab.OZ := (.one 0 [0, 1, 2, 3, 4, 5, 6, 7, 8, 9, 10, 11, 12, 13, 14, 15, 16, 17, 18, 19, 20] (.one 1 [1, 2, 3, 4, 5, 6, 7, 8, 9, 10, 11, 12, 13, 14, 15, 16, 17, 18, 19, 20] (.one 2 [2, 3, 4, 5, 6, 7, 8, 9, 10, 11, 12, 13, 14, 15, 16, 17, 18, 19, 20] (.one 3 [3, 7, 8, 9, 10, 11, 12, 13, 14, 15, 16, 17, 18, 19, 20] (.one 4 [4, 5, 6, 7, 8, 9, 10, 11, 12, 13, 14, 15, 16, 17, 18, 19, 20] (.one 5 [5, 6, 7, 8, 9, 10, 11, 12, 13, 14, 15, 16, 17, 18, 19, 20] (.one 6 [6, 7, 8, 9, 10, 11, 12, 13, 14, 15, 16, 17, 18, 19, 20] (.one 7 [7, 8, 9, 10, 11, 12, 13, 14, 15, 16, 17, 18, 19, 20] (.one 8 [8, 9, 10, 11, 12, 13, 14, 15, 16, 17, 18, 19, 20] (.one 9 [9, 10, 11, 12, 13, 14, 15, 16, 17, 18, 19, 20] (.one 10 [10, 11, 13, 14, 19, 20] (.one 11 [11, 13, 14, 19, 20] (.one 12 [12, 13, 14, 19, 20] (.one 13 [13, 14, 19, 20] (.one 14 [14, 19, 20] (.one 15 [15, 17, 18, 19, 20] (.one 16 [16, 17, 18, 19, 20] (.one 17 [17, 18, 19, 20] (.one 18 [18, 19, 20] (.one 19 [19, 20] (.one 20 [20] .done)))))))))))))))))))))
namespace Go.Proofs.YtblfodnajpamfaaGreatDoor
open Go Go.Ab Go.Ab.A34 Go.Ab.A15
variable [Gl] [Tabs]
theorem check_i (db : List Tb) (l : List Dp) (g : Dp) (pr : List P2) (hdb : db.length ≤ 1000) (hll : l.length ≤ 1000000) (hl : ∀ d ∈ l, OkD d) (hg : OkD g) (h : allS db l g = 0) (hpr : OkP pr) : PCall Tryz.prog 16 [DB db, DpL l, DV g, PL pr] (SB (chkP l g.t g.r pr g.f g.l)) := by
  have c := all_p db l g (by omega) (by omega) hl hg
  have V := allS_ok h
  rw [h] at c
  have hok := V.okL
  have hlr : ∀ d ∈ l, d.l.length = d.r.length := fun d hd => (V.l d hd).lr
  have hgl : g.l.length ≤ 16 := in16_len V.g.nl (V.g.in16l V.vd)
  have hgr : g.r.length ≤ 1000000000 := by have := in16_len V.g.nr (V.g.in16r V.vd); omega
  have cc := clone_i g.l (by omega)
  obtain ⟨R, hR⟩ : ∃ R, R = chkP l g.t g.r pr g.f g.l := ⟨_, rfl⟩
  rw [← hR]
  have hR0 : R = chkP l g.t g.r (pr.drop 0) g.f g.l := by rw [List.drop_zero]; exact hR
  clear hR V h
  have hR := hR0
  clear hR0
  have hp1 := hpr.1
  obtain ⟨gf, gl, gt, gr⟩ := g
  simp only at hR cc hgl hgr
  refine Call.enter' (N := 116) (rs := [.tmp 8]) Tryz.func16 rfl rfl rfl (by decide) rfl ?_; simp only [argT]; have hD : (0 : Nat) = 0 := rfl
  repeat' first | (refine SW.seq_k fun K hK => ?_) | ((first | refine SW.region ?_ | refine SW.cond ?_ | refine SW.skip ?_ | refine Call.of_pure (c) ?_ | (refine allF_i fun b hb => ?_; replace hD := And.intro hb hD; clear hb; try simp only [fresh_cons, fresh_nil, and_true, ne_eq, neF] at hD)); try simp only [go_sem, hD]) | (apply hK; clear hK K)
  obtain ⟨gb, rfl⟩ : ∃ x, x = b := ⟨_, rfl⟩
  refine SW.cut (fun S' => (gl = [] ∧ S'.le ⟨[(1, DpL l), (3, PL pr), (6, .op gb 0), (8, SB false), (9, Str gf), (10, SN)], [(gb, .svs (dC ⟨gf, gl, gt, gr⟩))]⟩) ∨ ∃ ab, ¬ ab = gb ∧ ¬ gb = ab ∧ S'.le ⟨[(1, DpL l), (3, PL pr), (6, .op gb 0), (8, SB false), (9, Str gf), (10, .os ab 0 gl.length 1)], [(ab, .svs (gl.map fun x => I64 x)), (gb, .svs (dC ⟨gf, gl, gt, gr⟩))]⟩) ?_ (fun S' hS' => ?_)
  · clear hK K hR
    repeat' first | ((refine Call.mono (Call.frameN (h1 := []) cc) ?_); (intro r h' hx); (obtain ⟨h1, rfl, hcl, hnd⟩ := hx); (rcases hcl with ⟨hg0, rfl, rfl⟩ | ⟨ab, rfl, rfl⟩ <;> (simp only [List.nil_append, List.cons_append] at hnd ⊢; have hf := fresh_of_nodup hnd; simp only [fresh_cons, fresh_nil, and_true, ne_eq, neF] at hf; replace hD := And.intro hf hD; clear hf hnd; try simp only [go_sem, hD]))) | (refine SW.regionY [4] (id := 3) (Checked.mixed Tryz.checked) ((.one 2 [2, 3, 4, 5, 6] (.one 3 [3, 4, 5, 6] (.alt 0 false (.alt 1 false (.alt 4 true (.one 5 [5, 6] (.one 6 [6] .done)) .nil) (.alt 4 true (.one 1 [1, 5, 6] (.one 5 [5, 6] (.one 6 [6] .done))) .nil)) (.alt 4 true (.one 0 [0, 1, 5, 6] (.one 1 [1, 5, 6] (.one 5 [5, 6] (.one 6 [6] .done)))) .nil)))) : OY) (by kernel_rfl) ?_; try simp only [go_sem, hD, true_implies]) | (refine And.intro ?_ ?_)
    all_goals
      refine nrm_i ?_
      first
        | (refine .inl ⟨hg0, (St.le_pick [(gb, .svs (dC ⟨gf, gl, gt, gr⟩))] ?_ ?_).trans (St.le_sub (by repeat' (first | exact rfl | exact trivial | constructor)))⟩)
        | (refine .inr ⟨ab, by simp [hD], by simp [hD], (St.le_pick [(ab, .svs (gl.map fun x => I64 x)), (gb, .svs (dC ⟨gf, gl, gt, gr⟩))] ?_ ?_).trans (St.le_sub (by repeat' (first | exact rfl | exact trivial | constructor)))⟩)
    all_goals first
      | ((repeat' (first | exact (fun x hx => (List.not_mem_nil hx).elim) | refine List.forall_mem_cons.2 ⟨?_, ?_⟩ | exact List.mem_cons_self | apply List.mem_cons_of_mem)); done)
      | (simp [fresh_cons, fresh_nil, hD])
  have hK2 := hK S'
  clear hK hD
  rcases hS' with ⟨rfl, hle⟩ | ⟨ab, k1, k2, hle⟩
  · apply hK2
    clear hK2 K
    refine Ab.SW.le hle ?_
    clear hle
    have hD : (0 : Nat) = 0 := rfl
    repeat' first | (refine SW.seq_k fun K hK => ?_) | (refine SW.block ?_) | (refine SW.region ?_; try simp only [go_sem, hD]) | (apply hK; clear hK K)
    obtain ⟨I, hI⟩ : ∃ I : Nat → St → Prop, ∀ k S, I k S ↔ (∃ (i : Nat) (t : ByteArray), k = pr.length - i ∧ i ≤ pr.length ∧ R = chkP l gt gr (pr.drop i) t ([] : List Int) ∧ S = ⟨[(1, DpL l), (6, .op gb 0), (8, SB false), (9, Str t), (10, SN), (26, PL pr), (27, I64 pr.length), (28, I64 i)], [(gb, .svs (dC ⟨gf, [], gt, gr⟩))]⟩) := ⟨fun k S => _, fun _ _ => Iff.rfl⟩
    refine SW.loop' I (pr.length) ((hI _ _).2 ⟨0, gf, rfl, Nat.zero_le _, hR, rfl⟩) (by repeat' (first | exact rfl | exact trivial | constructor)) ?_
    intro k S hIn
    obtain ⟨i, t, rfl, hi, hC, rfl⟩ := (hI _ _).1 hIn
    clear hIn
    have ie : ((i : Nat) : Int).toNat = i := Int.toNat_natCast _
    have i0 : (0 : Int) ≤ ((i : Nat) : Int) := by omega
    clear hR
    have hD := (rfl : (0 : Nat) = 0)
    by_cases hlt : i < pr.length
    · have hli : ((i : Nat) : Int) < (((pr.length) : Nat) : Int) := by omega
      have w1 : IntKind.i64.wrap ((i : Int) + 1) = ((i + 1 : Nat) : Int) := by rw [i64_wrap (by omega) (by omega)]; omega
      rw [chkP_drop hlt] at hC
      have fp : pF pr i = pC (pr.getD i p0) := rfl
      have hpl := hpr.2 _ (getD_mem' p0 hlt)
      generalize pr.getD i p0 = p at *
      obtain ⟨q, ps⟩ := p
      simp only at hC hpl
      by_cases c1 : q < 0
      · rw [if_neg (by omega)] at hC
        subst hC
        repeat' first | (refine SW.seq_k fun K hK => ?_) | (refine SW.block ?_) | ((first | refine SW.region ?_ | refine SW.cond ?_ | refine SW.skip ?_ | refine SW.ret ?_ | (refine allF_i fun b hb => ?_; replace hD := And.intro hb hD; clear hb; try simp only [fresh_cons, fresh_nil, and_true, ne_eq, neF] at hD)); try simp only [go_sem, hD, hli, ie, i0, w1, fp, c1, true_implies]) | (apply hK; clear hK K)
        all_goals
          refine ret_pure ?_; simp only [resL_tmp, resL_nil, tupOf, go_sem, hD]
      by_cases c2 : ((l.length : Nat) : Int) ≤ q
      · rw [if_neg (by omega)] at hC
        subst hC
        repeat' first | (refine SW.seq_k fun K hK => ?_) | (refine SW.block ?_) | ((first | refine SW.region ?_ | refine SW.cond ?_ | refine SW.skip ?_ | refine SW.ret ?_ | (refine allF_i fun b hb => ?_; replace hD := And.intro hb hD; clear hb; try simp only [fresh_cons, fresh_nil, and_true, ne_eq, neF] at hD)); try simp only [go_sem, hD, hli, ie, i0, w1, fp, c1, c2, true_implies]) | (apply hK; clear hK K)
        all_goals
          refine ret_pure ?_; simp only [resL_tmp, resL_nil, tupOf, go_sem, hD]
      by_cases c3 : ps.length = 0
      rotate_left
      · rw [if_neg (fun x => c3 x.2.2.1)] at hC
        subst hC
        have c3i : ¬ ((ps.length : Nat) : Int) = 0 := by omega
        repeat' first | (refine SW.seq_k fun K hK => ?_) | (refine SW.block ?_) | ((first | refine SW.region ?_ | refine SW.cond ?_ | refine SW.skip ?_ | refine SW.ret ?_ | (refine allF_i fun b hb => ?_; replace hD := And.intro hb hD; clear hb; try simp only [fresh_cons, fresh_nil, and_true, ne_eq, neF] at hD)); try simp only [go_sem, hD, hli, ie, i0, w1, fp, c1, c2, c3i, true_implies]) | (apply hK; clear hK K)
        all_goals
          refine ret_pure ?_; simp only [resL_tmp, resL_nil, tupOf, go_sem, hD]
      have c3i : ((ps.length : Nat) : Int) = 0 := by omega
      have dm := getD_mem' d0 (show q.toNat < l.length by omega)
      have fd : dpF l q.toNat = dC (l.getD q.toNat d0) := rfl
      have q0 : 0 ≤ q := by omega
      have ql : q < ((l.length : Nat) : Int) := by omega
      have hlrd := hlr _ dm
      have hdl := hok _ dm
      generalize l.getD q.toNat d0 = d at *
      obtain ⟨df, dl, dt, dr⟩ := d
      simp only at hC
      replace hlrd : dl.length = dr.length := hlrd
      replace hdl : dl.length ≤ 1000000 := hdl
      by_cases c4 : df = t
      rotate_left
      · rw [if_neg (fun x => c4 x.2.2.2)] at hC
        subst hC
        have ee : (df.toList == t.toList) = false := by rw [Bool.eq_false_iff]; exact fun h => c4 (barr_eq.1 h)
        repeat' first | (refine SW.seq_k fun K hK => ?_) | (refine SW.block ?_) | ((first | refine SW.region ?_ | refine SW.cond ?_ | refine SW.skip ?_ | refine SW.ret ?_ | (refine allF_i fun b hb => ?_; replace hD := And.intro hb hD; clear hb; try simp only [fresh_cons, fresh_nil, and_true, ne_eq, neF] at hD)); try simp only [go_sem, hD, hli, ie, i0, w1, fp, c1, c2, c3i, fd, q0, ql, ee, true_implies]) | (apply hK; clear hK K)
        all_goals
          refine ret_pure ?_; simp only [resL_tmp, resL_nil, tupOf, go_sem, hD]
      have ee : (df.toList == t.toList) = true := barr_eq.2 c4
      rw [if_pos ⟨q0, ql, c3, c4⟩] at hC
      repeat' first | (refine SW.seq_k fun K hK => ?_) | (refine SW.block ?_) | ((first | refine SW.region ?_ | refine SW.cond ?_ | refine SW.skip ?_ | (refine allF_i fun b hb => ?_; replace hD := And.intro hb hD; clear hb; try simp only [fresh_cons, fresh_nil, and_true, ne_eq, neF] at hD)); try simp only [go_sem, hD, hli, ie, i0, w1, fp, c1, c2, c3i, fd, q0, ql, ee, true_implies]) | (apply hK; clear hK K)
      obtain ⟨db, rfl⟩ : ∃ x, x = b := ⟨_, rfl⟩
      obtain ⟨pb, rfl⟩ : ∃ x, x = b := ⟨_, rfl⟩
      have e1 : ¬ db = gb := by simp [hD]
      have e2 : ¬ gb = db := by simp [hD]
      have hps : ps = [] := List.eq_nil_of_length_eq_zero c3
      subst hps
      have hC2 : R = chkP l gt gr (pr.drop (i + 1)) dt [] := by rw [hC]; simp [stpC]
      clear hC
      refine Ab.SW.le (St.le_pick [(db, .svs (dC ⟨df, dl, dt, dr⟩)), (gb, .svs (dC ⟨gf, [], gt, gr⟩))] ?_ ?_) ?_
      · repeat' (first | exact (fun x hx => (List.not_mem_nil hx).elim) | refine List.forall_mem_cons.2 ⟨?_, ?_⟩ | exact List.mem_cons_self | apply List.mem_cons_of_mem)
      · simp [fresh_cons, fresh_nil, hD]
      clear hD
      have hD := And.intro (eq_false e1) (eq_false e2)
      obtain ⟨J, hJ⟩ : ∃ J : Nat → St → Prop, ∀ m S, J m S ↔ S = ⟨[(1, DpL l), (6, .op gb 0), (8, SB false), (10, SN), (13, .op db 0), (26, PL pr), (27, I64 pr.length), (28, I64 i), (66, IL []), (67, I64 0), (68, I64 0)], [(db, .svs (dC ⟨df, dl, dt, dr⟩)), (gb, .svs (dC ⟨gf, [], gt, gr⟩))]⟩ := ⟨fun m S => _, fun _ _ => Iff.rfl⟩
      refine SW.loop' J 0 ((hJ _ _).2 rfl) (by repeat' (first | exact rfl | exact trivial | constructor)) ?_
      intro m S hIn
      obtain rfl := (hJ _ _).1 hIn
      clear hIn
      repeat' first | (refine SW.seq_k fun K hK => ?_) | ((first | refine SW.region ?_ | refine SW.cond ?_ | refine SW.exit ?_); try simp only [go_sem, hD, w1, true_implies]) | (apply hK; clear hK K) | (clear hK K; apply hK; clear hK K)
      all_goals
        refine Rnd.le (St.le_pick [(gb, .svs (dC ⟨gf, [], gt, gr⟩))] ?_ ?_) (Rnd.sub (pr.length - (i + 1)) (by omega) ((hI _ _).2 ⟨i + 1, dt, rfl, by omega, hC2, rfl⟩) (by repeat' (first | exact rfl | exact trivial | constructor)))
        · repeat' (first | exact (fun x hx => (List.not_mem_nil hx).elim) | refine List.forall_mem_cons.2 ⟨?_, ?_⟩ | exact List.mem_cons_self | apply List.mem_cons_of_mem)
        · simp [fresh_cons, fresh_nil, hD]
    · have hli : ¬ ((i : Nat) : Int) < (((pr.length) : Nat) : Int) := by omega
      rw [List.drop_of_length_le (by omega)] at hC
      have hC2 : R = (decide (t = gt) && decide (([] : List Int) = gr)) := hC
      clear hC
      refine Ab.SW.le (St.le_say (i := 10) (v := IL []) (fun E u hr => Rep.fl_nil hr)) ?_
      have c := equal_i ([] : List Int) gr (by simp) hgr gr.length rfl (iF gr) (fun j hj => rfl)
      generalize decide (([] : List Int) = gr) = w at *
      by_cases e : t = gt
      · have ee : (t.toList == gt.toList) = true := barr_eq.2 e
        rw [decide_eq_true e, Bool.true_and] at hC2
        subst hC2
        repeat' first | (refine SW.seq_k fun K hK => ?_) | ((first | refine SW.region ?_ | refine SW.cond ?_ | refine SW.exit ?_ | refine SW.ret ?_ | refine Call.of_pure (c) ?_); try simp only [go_sem, hD, hli, ee, true_implies]) | (apply hK; clear hK K) | (clear hK K; apply hK; clear hK K)
        all_goals
          refine ret_pure ?_; simp only [resL_tmp, resL_nil, tupOf, go_sem, hD]
      · have ee : (t.toList == gt.toList) = false := by rw [Bool.eq_false_iff]; exact fun h => e (barr_eq.1 h)
        rw [decide_eq_false e, Bool.false_and] at hC2
        subst hC2
        repeat' first | (refine SW.seq_k fun K hK => ?_) | ((first | refine SW.region ?_ | refine SW.cond ?_ | refine SW.exit ?_ | refine SW.ret ?_); try simp only [go_sem, hD, hli, ee, true_implies]) | (apply hK; clear hK K) | (clear hK K; apply hK; clear hK K)
        all_goals
          refine ret_pure ?_; simp only [resL_tmp, resL_nil, tupOf, go_sem, hD]
  · apply hK2
    clear hK2 K
    refine Ab.SW.le hle ?_
    clear hle
    have hD := And.intro (eq_false k1) (eq_false k2)
    repeat' first | (refine SW.seq_k fun K hK => ?_) | (refine SW.block ?_) | (refine SW.region ?_; try simp only [go_sem, hD]) | (apply hK; clear hK K)
    obtain ⟨I, hI⟩ : ∃ I : Nat → St → Prop, ∀ k S, I k S ↔ (∃ (i : Nat) (t : ByteArray) (a : List Int), k = pr.length - i ∧ i ≤ pr.length ∧ R = chkP l gt gr (pr.drop i) t a ∧ a.length = gl.length ∧ S = ⟨[(1, DpL l), (6, .op gb 0), (8, SB false), (9, Str t), (10, .os ab 0 a.length 1), (26, PL pr), (27, I64 pr.length), (28, I64 i)], [(ab, .svs (a.map fun x => I64 x)), (gb, .svs (dC ⟨gf, gl, gt, gr⟩))]⟩) := ⟨fun k S => _, fun _ _ => Iff.rfl⟩
    refine SW.loop' I (pr.length) ((hI _ _).2 ⟨0, gf, gl, rfl, Nat.zero_le _, hR, rfl, rfl⟩) (by repeat' (first | exact rfl | exact trivial | constructor)) ?_
    intro k S hIn
    obtain ⟨i, t, a, rfl, hi, hC, hal, rfl⟩ := (hI _ _).1 hIn
    clear hIn
    have ie : ((i : Nat) : Int).toNat = i := Int.toNat_natCast _
    have i0 : (0 : Int) ≤ ((i : Nat) : Int) := by omega
    clear hR
    have hD := And.intro (eq_false k1) (eq_false k2)
    by_cases hlt : i < pr.length
    · have hli : ((i : Nat) : Int) < (((pr.length) : Nat) : Int) := by omega
      have w1 : IntKind.i64.wrap ((i : Int) + 1) = ((i + 1 : Nat) : Int) := by rw [i64_wrap (by omega) (by omega)]; omega
      rw [chkP_drop hlt] at hC
      have fp : pF pr i = pC (pr.getD i p0) := rfl
      have hpl := hpr.2 _ (getD_mem' p0 hlt)
      generalize pr.getD i p0 = p at *
      obtain ⟨q, ps⟩ := p
      simp only at hC hpl
      by_cases c1 : q < 0
      · rw [if_neg (by omega)] at hC
        subst hC
        repeat' first | (refine SW.seq_k fun K hK => ?_) | (refine SW.block ?_) | ((first | refine SW.region ?_ | refine SW.cond ?_ | refine SW.skip ?_ | refine SW.ret ?_ | (refine allF_i fun b hb => ?_; replace hD := And.intro hb hD; clear hb; try simp only [fresh_cons, fresh_nil, and_true, ne_eq, neF] at hD)); try simp only [go_sem, hD, hli, ie, i0, w1, fp, c1, true_implies]) | (apply hK; clear hK K)
        all_goals
          refine ret_pure ?_; simp only [resL_tmp, resL_nil, tupOf, go_sem, hD]
      by_cases c2 : ((l.length : Nat) : Int) ≤ q
      · rw [if_neg (by omega)] at hC
        subst hC
        repeat' first | (refine SW.seq_k fun K hK => ?_) | (refine SW.block ?_) | ((first | refine SW.region ?_ | refine SW.cond ?_ | refine SW.skip ?_ | refine SW.ret ?_ | (refine allF_i fun b hb => ?_; replace hD := And.intro hb hD; clear hb; try simp only [fresh_cons, fresh_nil, and_true, ne_eq, neF] at hD)); try simp only [go_sem, hD, hli, ie, i0, w1, fp, c1, c2, true_implies]) | (apply hK; clear hK K)
        all_goals
          refine ret_pure ?_; simp only [resL_tmp, resL_nil, tupOf, go_sem, hD]
      by_cases c3 : ps.length = a.length
      rotate_left
      · rw [if_neg (fun x => c3 x.2.2.1)] at hC
        subst hC
        have c3i : ¬ ((ps.length : Nat) : Int) = ((a.length : Nat) : Int) := by omega
        repeat' first | (refine SW.seq_k fun K hK => ?_) | (refine SW.block ?_) | ((first | refine SW.region ?_ | refine SW.cond ?_ | refine SW.skip ?_ | refine SW.ret ?_ | (refine allF_i fun b hb => ?_; replace hD := And.intro hb hD; clear hb; try simp only [fresh_cons, fresh_nil, and_true, ne_eq, neF] at hD)); try simp only [go_sem, hD, hli, ie, i0, w1, fp, c1, c2, c3i, true_implies]) | (apply hK; clear hK K)
        all_goals
          refine ret_pure ?_; simp only [resL_tmp, resL_nil, tupOf, go_sem, hD]
      have c3i : ((ps.length : Nat) : Int) = ((a.length : Nat) : Int) := by omega
      have dm := getD_mem' d0 (show q.toNat < l.length by omega)
      have fd : dpF l q.toNat = dC (l.getD q.toNat d0) := rfl
      have q0 : 0 ≤ q := by omega
      have ql : q < ((l.length : Nat) : Int) := by omega
      have hlrd := hlr _ dm
      have hdl := hok _ dm
      generalize l.getD q.toNat d0 = d at *
      obtain ⟨df, dl, dt, dr⟩ := d
      simp only at hC
      replace hlrd : dl.length = dr.length := hlrd
      replace hdl : dl.length ≤ 1000000 := hdl
      by_cases c4 : df = t
      rotate_left
      · rw [if_neg (fun x => c4 x.2.2.2)] at hC
        subst hC
        have ee : (df.toList == t.toList) = false := by rw [Bool.eq_false_iff]; exact fun h => c4 (barr_eq.1 h)
        repeat' first | (refine SW.seq_k fun K hK => ?_) | (refine SW.block ?_) | ((first | refine SW.region ?_ | refine SW.cond ?_ | refine SW.skip ?_ | refine SW.ret ?_ | (refine allF_i fun b hb => ?_; replace hD := And.intro hb hD; clear hb; try simp only [fresh_cons, fresh_nil, and_true, ne_eq, neF] at hD)); try simp only [go_sem, hD, hli, ie, i0, w1, fp, c1, c2, c3i, fd, q0, ql, ee, true_implies]) | (apply hK; clear hK K)
        all_goals
          refine ret_pure ?_; simp only [resL_tmp, resL_nil, tupOf, go_sem, hD]
      have ee : (df.toList == t.toList) = true := barr_eq.2 c4
      rw [if_pos ⟨q0, ql, c3, c4⟩] at hC
      repeat' first | (refine SW.seq_k fun K hK => ?_) | (refine SW.block ?_) | ((first | refine SW.region ?_ | refine SW.cond ?_ | refine SW.skip ?_ | (refine allF_i fun b hb => ?_; replace hD := And.intro hb hD; clear hb; try simp only [fresh_cons, fresh_nil, and_true, ne_eq, neF] at hD)); try simp only [go_sem, hD, hli, ie, i0, w1, fp, c1, c2, c3i, fd, q0, ql, ee, true_implies]) | (apply hK; clear hK K)
      obtain ⟨db, rfl⟩ : ∃ x, x = b := ⟨_, rfl⟩
      obtain ⟨pb, rfl⟩ : ∃ x, x = b := ⟨_, rfl⟩
      have e1 : ¬ db = gb := by simp [hD]
      have e2 : ¬ gb = db := by simp [hD]
      have e3 : ¬ db = ab := by simp [hD]
      have e4 : ¬ ab = db := by simp [hD]
      have hIO := hI
      have ow1 := w1
      clear hI
      have hC0 : R = (match stR [] (stpC ⟨df, dl, dt, dr⟩ (ps.drop 0) (a.drop 0)) with
        | none => false
        | some a' => chkP l gt gr (pr.drop (i + 1)) dt a') := by
        rw [hC]
        simp only [List.drop_zero]
        cases stpC ⟨df, dl, dt, dr⟩ ps a <;> rfl
      clear hC
      refine Ab.SW.le (St.le_pick [(ab, .svs (a.map fun x => I64 x)), (db, .svs (dC ⟨df, dl, dt, dr⟩)), (gb, .svs (dC ⟨gf, gl, gt, gr⟩))] ?_ ?_) ?_
      · repeat' (first | exact (fun x hx => (List.not_mem_nil hx).elim) | refine List.forall_mem_cons.2 ⟨?_, ?_⟩ | exact List.mem_cons_self | apply List.mem_cons_of_mem)
      · simp [fresh_cons, fresh_nil, hD]
      clear hD
      have hD := And.intro (And.intro (eq_false e1) (eq_false e2)) (And.intro (And.intro (eq_false e3) (eq_false e4)) (And.intro (eq_false k1) (eq_false k2)))
      obtain ⟨I, hI⟩ : ∃ I : Nat → St → Prop, ∀ k S, I k S ↔ (∃ (m : Nat) (N : List Int), k = a.length - m ∧ m ≤ a.length ∧ N.length = m ∧ R = (match stR N (stpC ⟨df, dl, dt, dr⟩ (ps.drop m) (a.drop m)) with | none => false | some a' => chkP l gt gr (pr.drop (i + 1)) dt a') ∧ S = ⟨[(1, DpL l), (6, .op gb 0), (8, SB false), (10, .os ab 0 a.length 1), (13, .op db 0), (26, PL pr), (27, I64 pr.length), (28, I64 i), (66, IL ps), (67, I64 ps.length), (68, I64 m)], [(ab, .svs ((N ++ a.drop m).map fun x => I64 x)), (db, .svs (dC ⟨df, dl, dt, dr⟩)), (gb, .svs (dC ⟨gf, gl, gt, gr⟩))]⟩) := ⟨fun k S => _, fun _ _ => Iff.rfl⟩
      refine SW.loop' I (a.length) ((hI _ _).2 ⟨0, [], rfl, Nat.zero_le _, rfl, hC0, rfl⟩) (by repeat' (first | exact rfl | exact trivial | exact int_eq (by omega) | constructor)) ?_
      intro k S hIn
      obtain ⟨m, N, rfl, hi, hNl, hC, rfl⟩ := (hI _ _).1 hIn
      clear hIn
      have ie : ((m : Nat) : Int).toNat = m := Int.toNat_natCast _
      have i0 : (0 : Int) ≤ ((m : Nat) : Int) := by omega
      clear hC0
      by_cases hlt : m < a.length
      · have hli : ((m : Nat) : Int) < ((ps.length : Nat) : Int) := by omega
        have w1 : IntKind.i64.wrap ((m : Int) + 1) = ((m + 1 : Nat) : Int) := by rw [i64_wrap (by omega) (by omega)]; omega
        rw [stpC_drop c3 hlt] at hC
        simp only at hC
        have mal : ((m : Nat) : Int) < ((a.length : Nat) : Int) := by omega
        have fq : iF ps m = [I64 (ps.getD m 0)] := rfl
        have cl : (N ++ a.drop m).length = a.length := by rw [List.length_append, hNl, List.length_drop]; omega
        have clm : ((N ++ a.drop m).map fun x => I64 x).length = a.length := by rw [List.length_map, cl]
        have gm : ((N ++ a.drop m).map fun x => I64 x).getD m .any = I64 (a.getD m 0) := by
          rw [map_get (by omega)]
          simp [List.getD_eq_getElem?_getD, List.getElem?_append_right, hNl, List.getElem?_drop]
        have z0 : 0 + m * 1 = m := by omega
        have mlt : m < a.length := hlt
        generalize ps.getD m 0 = k at *
        by_cases b1 : k < 0
        · rw [if_neg (by omega)] at hC
          have hC2 : R = false := hC
          subst hC2
          repeat' first | (refine SW.seq_k fun K hK => ?_) | (refine SW.block ?_) | ((first | refine SW.region ?_ | refine SW.regionZ (id := 13) (Checked.mixed Tryz.checked) Go.Ab.zCC_1 (by kernel_rfl) ?_ | refine SW.cond ?_ | refine SW.skip ?_ | refine SW.ret ?_); try simp only [Go.Ab.zCC_1, go_sem, hD, hli, ie, i0, w1, fq, b1, mal, gm, z0, clm, mlt, true_implies]) | (apply hK; clear hK K)
          all_goals
            refine ret_pure ?_; simp only [resL_tmp, resL_nil, tupOf, go_sem, hD]
        by_cases b2 : ((dl.length : Nat) : Int) ≤ k
        · rw [if_neg (by omega)] at hC
          have hC2 : R = false := hC
          subst hC2
          repeat' first | (refine SW.seq_k fun K hK => ?_) | (refine SW.block ?_) | ((first | refine SW.region ?_ | refine SW.regionZ (id := 13) (Checked.mixed Tryz.checked) Go.Ab.zCC_1 (by kernel_rfl) ?_ | refine SW.cond ?_ | refine SW.skip ?_ | refine SW.ret ?_); try simp only [Go.Ab.zCC_1, go_sem, hD, hli, ie, i0, w1, fq, b1, b2, mal, gm, z0, clm, mlt, true_implies]) | (apply hK; clear hK K)
          all_goals
            refine ret_pure ?_; simp only [resL_tmp, resL_nil, tupOf, go_sem, hD]
        have kk0 : 0 ≤ k := by omega
        have kl : k < ((dl.length : Nat) : Int) := by omega
        have kr : k < ((dr.length : Nat) : Int) := by omega
        have fl : iF dl k.toNat = [I64 (dl.getD k.toNat 0)] := rfl
        have fr : iF dr k.toNat = [I64 (dr.getD k.toNat 0)] := rfl
        by_cases b3 : dl.getD k.toNat 0 = a.getD m 0
        rotate_left
        · rw [if_neg (fun x => b3 x.2.2)] at hC
          have hC2 : R = false := hC
          subst hC2
          generalize dl.getD k.toNat 0 = u at *
          generalize a.getD m 0 = v at *
          repeat' first | (refine SW.seq_k fun K hK => ?_) | (refine SW.block ?_) | ((first | refine SW.region ?_ | refine SW.regionZ (id := 13) (Checked.mixed Tryz.checked) Go.Ab.zCC_1 (by kernel_rfl) ?_ | refine SW.cond ?_ | refine SW.skip ?_ | refine SW.ret ?_); try simp only [Go.Ab.zCC_1, go_sem, hD, hli, ie, i0, w1, fq, b1, b2, b3, kk0, kl, kr, fl, mal, gm, z0, clm, mlt, true_implies]) | (apply hK; clear hK K)
          all_goals
            refine ret_pure ?_; simp only [resL_tmp, resL_nil, tupOf, go_sem, hD]
        rw [if_pos ⟨kk0, kl, b3⟩] at hC
        have hst : ((N ++ a.drop m).map fun x => I64 x).set m (I64 (dr.getD k.toNat 0)) = ((N ++ [dr.getD k.toNat 0]) ++ a.drop (m + 1)).map fun x => I64 x := by
          rw [← List.map_set, List.set_append_right _ _ (by omega), hNl, Nat.sub_self, List.drop_eq_getElem_cons hlt, List.set_cons_zero, List.append_assoc]
          rfl
        have hC2 : R = (match stR (N ++ [dr.getD k.toNat 0]) (stpC ⟨df, dl, dt, dr⟩ (ps.drop (m + 1)) (a.drop (m + 1))) with | none => false | some a' => chkP l gt gr (pr.drop (i + 1)) dt a') := by
          rw [hC]
          cases stpC ⟨df, dl, dt, dr⟩ (ps.drop (m + 1)) (a.drop (m + 1)) with
          | none => rfl
          | some r => simp [stR]
        clear hC
        rw [b3] at fl
        generalize dr.getD k.toNat 0 = u at *
        generalize a.getD m 0 = v at *
        repeat' first | (with_reducible refine And.intro (by omega) ?_) | (refine SW.seq_k fun K hK => ?_) | (refine SW.block ?_) | ((first | refine SW.region ?_ | refine SW.regionZ (id := 13) (Checked.mixed Tryz.checked) Go.Ab.zCC_1 (by kernel_rfl) ?_ | refine SW.cond ?_ | refine SW.skip ?_); try simp only [Go.Ab.zCC_1, go_sem, hD, hli, ie, i0, w1, fq, b1, b2, kk0, kl, kr, fl, fr, mal, gm, z0, clm, mlt, true_implies]) | (apply hK; clear hK K)
        all_goals
          rw [hst]
          refine Rnd.sub (a.length - (m + 1)) (by omega) ((hI _ _).2 ⟨m + 1, N ++ [u], rfl, by omega, (by rw [List.length_append, hNl]; rfl), hC2, rfl⟩) (by repeat' (first | exact rfl | exact trivial | constructor))
      · have hli : ¬ ((m : Nat) : Int) < ((ps.length : Nat) : Int) := by omega
        obtain rfl : m = a.length := by omega
        have hC2 : R = chkP l gt gr (pr.drop (i + 1)) dt N := by
          rw [hC, List.drop_length, ← c3, List.drop_length]
          simp [stpC, stR]
        clear hC
        rw [List.drop_length, List.append_nil]
        repeat' first | (refine SW.seq_k fun K hK => ?_) | ((first | refine SW.region ?_ | refine SW.cond ?_ | refine SW.exit ?_); try simp only [go_sem, hD, hli, ow1, true_implies]) | (apply hK; clear hK K) | (clear hK K; apply hK; clear hK K)
        all_goals
          rw [← hNl]
          refine Rnd.le (St.le_pick [(ab, .svs (N.map fun x => I64 x)), (gb, .svs (dC ⟨gf, gl, gt, gr⟩))] ?_ ?_) (Rnd.sub (pr.length - (i + 1)) (by omega) ((hIO _ _).2 ⟨i + 1, dt, N, rfl, by omega, hC2, by omega, rfl⟩) (by repeat' (first | exact rfl | exact trivial | constructor)))
          · repeat' (first | exact (fun x hx => (List.not_mem_nil hx).elim) | refine List.forall_mem_cons.2 ⟨?_, ?_⟩ | exact List.mem_cons_self | apply List.mem_cons_of_mem)
          · simp [fresh_cons, fresh_nil, hD]
    · have hli : ¬ ((i : Nat) : Int) < (((pr.length) : Nat) : Int) := by omega
      rw [List.drop_of_length_le (by omega)] at hC
      have hC2 : R = (decide (t = gt) && decide (a = gr)) := hC
      clear hC
      refine Ab.SW.le (St.le_freeze (i := 10) (b := ab) (off := 0) (len := a.length) (sz := 1) (k := .svs (a.map fun x => I64 x)) rfl (by rw [find_cons, if_pos rfl]) (by show 0 + a.length * 1 ≤ (a.map fun x => I64 x).length; rw [List.length_map]; omega) (iF a) (fun j hj => ?_)) ?_
      · rw [getN_one]
        show _ = [(a.map fun x => I64 x).getD (0 + j * 1) .any]
        rw [map_get (by omega)]
        unfold iF
        rw [Nat.zero_add, Nat.mul_one]
      rw [del_cons, if_pos rfl]
      have c := equal_i a gr (by omega) hgr gr.length rfl (iF gr) (fun j hj => rfl)
      generalize decide (a = gr) = w at *
      by_cases e : t = gt
      · have ee : (t.toList == gt.toList) = true := barr_eq.2 e
        rw [decide_eq_true e, Bool.true_and] at hC2
        subst hC2
        repeat' first | (refine SW.seq_k fun K hK => ?_) | ((first | refine SW.region ?_ | refine SW.cond ?_ | refine SW.exit ?_ | refine SW.ret ?_ | refine Call.of_pure (c) ?_); try simp only [go_sem, hD, hli, ee, true_implies]) | (apply hK; clear hK K) | (clear hK K; apply hK; clear hK K)
        all_goals
          refine ret_pure ?_; simp only [resL_tmp, resL_nil, tupOf, go_sem, hD]
      · have ee : (t.toList == gt.toList) = false := by rw [Bool.eq_false_iff]; exact fun h => e (barr_eq.1 h)
        rw [decide_eq_false e, Bool.false_and] at hC2
        subst hC2
        repeat' first | (refine SW.seq_k fun K hK => ?_) | ((first | refine SW.region ?_ | refine SW.cond ?_ | refine SW.exit ?_ | refine SW.ret ?_); try simp only [go_sem, hD, hli, ee, true_implies]) | (apply hK; clear hK K) | (clear hK K; apply hK; clear hK K)
        all_goals
          refine ret_pure ?_; simp only [resL_tmp, resL_nil, tupOf, go_sem, hD]
end Go.Proofs.YtblfodnajpamfaaGreatDoor
def Go.Ab.zCD_1 : Go.Ab.OZ := (.one 0 [0, 1, 2, 3, 4, 5, 6, 7, 8, 9, 10, 11, 12, 13, 14, 15, 16, 17, 18, 19, 20, 21, 22, 23, 24, 25, 26, 27, 28, 29] (.one 1 [1, 2, 3, 4, 5, 6, 7, 8, 9, 10, 11, 12, 13, 14, 15, 16, 17, 18, 19, 20, 21, 22, 23, 24, 25, 26, 27, 28, 29] (.one 2 [2, 3, 4, 5, 6, 7, 8, 9, 10, 11, 12, 13, 14, 15, 16, 17, 18, 19, 20, 21, 22, 23, 24, 25, 26, 27, 28, 29] (.one 3 [3, 4, 5, 6, 7, 8, 9, 10, 11, 12, 13, 14, 15, 16, 17, 18, 19, 20, 21, 22, 23, 24, 25, 26, 27, 28, 29] (.one 4 [4, 5, 8, 9, 10, 11, 12, 13, 14, 15, 16, 17, 18, 19, 20, 21, 22, 23, 24, 25, 26, 27, 28, 29] (.one 5 [5, 8, 9, 10, 11, 12, 13, 14, 15, 16, 17, 18, 19, 20, 21, 22, 23, 24, 25, 26, 27, 28, 29] (.one 6 [6, 7, 8, 9, 10, 11, 12, 13, 14, 15, 16, 17, 18, 19, 20, 21, 22, 23, 24, 25, 26, 27, 28, 29] (.one 7 [7, 8, 9, 10, 11, 12, 13, 14, 15, 16, 17, 18, 19, 20, 21, 22, 23, 24, 25, 26, 27, 28, 29] (.one 8 [8, 9, 10, 11, 12, 13, 14, 15, 16, 17, 18, 19, 20, 21, 22, 23, 24, 25, 26, 27, 28, 29] (.one 9 [9, 10, 11, 12, 13, 14, 15, 16, 17, 18, 19, 20, 21, 22, 23, 24, 25, 26, 27, 28, 29] (.one 10 [10, 11, 12, 13, 14, 15, 16, 17, 18, 19, 20, 21, 22, 23, 24, 25, 26, 27, 28, 29] (.one 11 [11, 12, 13, 17, 18, 19, 20, 21, 22, 23, 24, 25, 26, 27, 28, 29] (.one 12 [12, 13, 17, 18, 19, 20, 21, 22, 23, 24, 25, 26, 27, 28, 29] (.one 13 [13, 17, 18, 19, 20, 21, 22, 23, 24, 25, 26, 27, 28, 29] (.one 14 [14, 15, 16, 17, 18, 19, 20, 21, 22, 23, 24, 25, 26, 27, 28, 29] (.one 15 [15, 16, 17, 18, 19, 20, 21, 22, 23, 24, 25, 26, 27, 28, 29] (.one 16 [16, 17, 18, 19, 20, 21, 22, 23, 24, 25, 26, 27, 28, 29] (.one 17 [17, 18, 19, 20, 21, 22, 23, 24, 25, 26, 27, 28, 29] (.one 18 [18, 19, 20, 21, 22, 23, 24, 25, 26, 27, 28, 29] (.one 19 [19, 20, 21, 22, 23, 24, 25, 26, 27, 28, 29] (.one 20 [20, 23, 24, 25, 28, 29] (.one 21 [21, 22, 23, 24, 25, 28, 29] (.one 22 [22, 23, 24, 25, 28, 29] (.one 23 [23, 24, 25, 28, 29] (.one 24 [24, 25, 28, 29] (.one 25 [25, 28, 29] (.one 26 [26, 27, 28, 29] (.one 27 [27, 28, 29] (.one 28 [28, 29] (.one 29 [29] .done))))))))))))))))))))))))))))))
def Go.Ab.zCD_2 : Go.Ab.OZ := (.one 0 [0, 1, 2, 3, 4, 5, 6, 7, 8, 9, 10, 11, 12, 13, 14, 15, 16, 17, 18, 19, 20, 21, 22, 23, 24, 25, 26, 27, 28, 29] (.one 1 [1, 2, 3, 4, 5, 6, 7, 8, 9, 10, 11, 12, 13, 14, 15, 16, 17, 18, 19, 20, 21, 22, 23, 24, 25, 26, 27, 28, 29] (.one 2 [2, 3, 4, 5, 6, 7, 8, 9, 10, 11, 12, 13, 14, 15, 16, 17, 18, 19, 20, 21, 22, 23, 24, 25, 26, 27, 28, 29] (.one 3 [3, 11, 12, 13, 14, 15, 16, 17, 18, 19, 20, 21, 22, 23, 24, 25, 26, 27, 28, 29] (.one 4 [4, 7, 8, 9, 10, 11, 12, 13, 14, 15, 16, 17, 18, 19, 20, 21, 22, 23, 24, 25, 26, 27, 28, 29] (.one 5 [5, 6, 7, 8, 9, 10, 11, 12, 13, 14, 15, 16, 17, 18, 19, 20, 21, 22, 23, 24, 25, 26, 27, 28, 29] (.one 6 [6, 7, 8, 9, 10, 11, 12, 13, 14, 15, 16, 17, 18, 19, 20, 21, 22, 23, 24, 25, 26, 27, 28, 29] (.one 7 [7, 8, 9, 10, 11, 12, 13, 14, 15, 16, 17, 18, 19, 20, 21, 22, 23, 24, 25, 26, 27, 28, 29] (.one 8 [8, 9, 10, 11, 12, 13, 14, 15, 16, 17, 18, 19, 20, 21, 22, 23, 24, 25, 26, 27, 28, 29] (.one 9 [9, 10, 11, 12, 13, 14, 15, 16, 17, 18, 19, 20, 21, 22, 23, 24, 25, 26, 27, 28, 29] (.one 10 [10, 11, 12, 13, 14, 15, 16, 17, 18, 19, 20, 21, 22, 23, 24, 25, 26, 27, 28, 29] (.one 11 [11, 12, 13, 14, 15, 16, 17, 18, 19, 20, 21, 22, 23, 24, 25, 26, 27, 28, 29] (.one 12 [12, 13, 14, 15, 16, 17, 18, 19, 20, 21, 22, 23, 24, 25, 26, 27, 28, 29] (.one 13 [13, 14, 15, 16, 17, 18, 19, 20, 21, 22, 23, 24, 25, 26, 27, 28, 29] (.one 14 [14, 17, 18, 19, 21, 22, 28, 29] (.one 15 [15, 16, 17, 18, 19, 21, 22, 28, 29] (.one 16 [16, 17, 18, 19, 21, 22, 28, 29] (.one 17 [17, 18, 19, 21, 22, 28, 29] (.one 18 [18, 19, 21, 22, 28, 29] (.one 19 [19, 21, 22, 28, 29] (.one 20 [20, 21, 22, 28, 29] (.one 21 [21, 22, 28, 29] (.one 22 [22, 28, 29] (.one 23 [23, 24, 26, 27, 28, 29] (.one 24 [24, 26, 27, 28, 29] (.one 25 [25, 26, 27, 28, 29] (.one 26 [26, 27, 28, 29] (.one 27 [27, 28, 29] (.one 28 [28, 29] (.one 29 [29] .done))))))))))))))))))))))))))))))
def Go.Ab.zCD_3 : Go.Ab.OZ := (.one 0 [0, 1, 12, 13, 14] (.one 1 [1, 12, 13, 14] (.one 2 [2, 5, 6, 7, 9, 10, 11, 12, 13, 14] (.one 3 [3, 4, 5, 6, 7, 9, 10, 11, 12, 13, 14] (.one 4 [4, 5, 6, 7, 9, 10, 11, 12, 13, 14] (.one 5 [5, 6, 7, 9, 10, 11, 12, 13, 14] (.one 6 [6, 7, 9, 10, 11, 12, 13, 14] (.one 7 [7, 9, 10, 11, 12, 13, 14] (.one 8 [8, 9, 10, 11, 12, 13, 14] (.one 9 [9, 10, 11, 12, 13, 14] (.one 10 [10, 11, 12, 13, 14] (.alt 11 (.alt 12 (.one 13 [13, 14] (.alt 14 .done .nil)) .nil) .nil))))))))))))
namespace Go.Proofs.YtblfodnajpamfaaGreatDoor
open Go Go.Ab Go.Ab.A34 Go.Ab.A15
variable [Gl] [Tabs]
theorem check_ir (db : List Tb) (l : List Dp) (g : Dp) (pr : List P2) (hdb : db.length ≤ 1000) (hokd : OkDb db) (hll : l.length ≤ 1000000) (hl : ∀ d ∈ l, OkD d) (hg : OkD g) (h : allS db l g = 0) (hpr : OkP pr) : PCall Tryz.prog 15 [DB db, DpL l, DV g, PL pr] (SB (chkP l g.t g.r pr g.f g.l)) := by
  have c := all_r db l g (by omega) hokd (by omega) hl hg
  have V := allS_ok h
  rw [h] at c
  have hok := V.okL
  have hlr : ∀ d ∈ l, d.l.length = d.r.length := fun d hd => (V.l d hd).lr
  have hgl : g.l.length ≤ 16 := in16_len V.g.nl (V.g.in16l V.vd)
  have hgr : g.r.length ≤ 1000000000 := by have := in16_len V.g.nr (V.g.in16r V.vd); omega
  obtain ⟨R, hR⟩ : ∃ R, R = chkP l g.t g.r pr g.f g.l := ⟨_, rfl⟩
  rw [← hR]
  have hR0 : R = chkP l g.t g.r (pr.drop 0) g.f g.l := by rw [List.drop_zero]; exact hR
  clear hR V h
  have hR := hR0
  clear hR0
  have hp1 := hpr.1
  obtain ⟨gf, gl, gt, gr⟩ := g
  simp only at hR hgl hgr
  refine Call.enter' (N := 141) (rs := [.tmp 8]) Tryz.func15 rfl rfl rfl (by decide) rfl ?_; simp only [argT]; have hD : (0 : Nat) = 0 := rfl
  repeat' first | (refine SW.seq_k fun K hK => ?_) | (refine SW.block ?_) | ((first | refine SW.region ?_ | refine SW.cond ?_ | refine SW.skip ?_ | refine Call.of_pure (c) ?_ | (refine allF_i fun b hb => ?_; replace hD := And.intro hb hD; clear hb; try simp only [fresh_cons, fresh_nil, and_true, ne_eq, neF] at hD)); try simp only [go_sem, hD, true_implies]) | (apply hK; clear hK K)
  obtain ⟨sb, rfl⟩ : ∃ x, x = b := ⟨_, rfl⟩
  obtain ⟨gb, rfl⟩ : ∃ x, x = b := ⟨_, rfl⟩
  have k1 : ¬ sb = gb := by simp [hD]
  have k2 : ¬ gb = sb := by simp [hD]
  refine Ab.SW.le (St.le_pick [(sb, .svs [Str gf, IL gl, I64 0]), (gb, .svs (dC ⟨gf, gl, gt, gr⟩))] ?_ ?_) ?_
  · repeat' (first | exact (fun x hx => (List.not_mem_nil hx).elim) | refine List.forall_mem_cons.2 ⟨?_, ?_⟩ | exact List.mem_cons_self | apply List.mem_cons_of_mem)
  · simp [fresh_cons, fresh_nil, hD]
  clear hD
  obtain ⟨I, hI⟩ : ∃ I : Nat → St → Prop, ∀ k S, I k S ↔ (∃ (i : Nat) (t : ByteArray) (a : List Int), k = pr.length - i ∧ i ≤ pr.length ∧ R = chkP l gt gr (pr.drop i) t a ∧ a.length = gl.length ∧ S = ⟨[(1, DpL l), (3, PL pr), (6, .op gb 0), (8, SB false), (9, .op sb 0), (10, I64 i)], [(sb, .svs [Str t, IL a, I64 0]), (gb, .svs (dC ⟨gf, gl, gt, gr⟩))]⟩) := ⟨fun k S => _, fun _ _ => Iff.rfl⟩
  refine SW.loop' I (pr.length) ((hI _ _).2 ⟨0, gf, gl, rfl, Nat.zero_le _, hR, rfl, rfl⟩) (by repeat' (first | exact rfl | exact trivial | constructor)) ?_
  intro k S hIn
  obtain ⟨i, t, a, rfl, hi, hC, hal, rfl⟩ := (hI _ _).1 hIn
  clear hIn
  have ie : ((i : Nat) : Int).toNat = i := Int.toNat_natCast _
  have i0 : (0 : Int) ≤ ((i : Nat) : Int) := by omega
  clear hR
  have hD := And.intro (eq_false k1) (eq_false k2)
  by_cases hlt : i < pr.length
  · have hli : ((i : Nat) : Int) < (((pr.length) : Nat) : Int) := by omega
    have w1 : IntKind.i64.wrap ((i : Int) + 1) = ((i + 1 : Nat) : Int) := by rw [i64_wrap (by omega) (by omega)]; omega
    rw [chkP_drop hlt] at hC
    have fp : pF pr i = pC (pr.getD i p0) := rfl
    have hpl := hpr.2 _ (getD_mem' p0 hlt)
    generalize pr.getD i p0 = p at *
    obtain ⟨q, ps⟩ := p
    simp only at hC hpl
    by_cases c1 : q < 0
    · rw [if_neg (by omega)] at hC
      subst hC
      repeat' first | (refine SW.seq_k fun K hK => ?_) | (refine SW.block ?_) | ((first | refine SW.region ?_ | refine SW.regionZ (id := 8) (Checked.mixed Tryz.checked) Go.Ab.zCD_1 (by kernel_rfl) ?_ | refine SW.cond ?_ | refine SW.skip ?_ | refine SW.ret ?_ | (refine allF_i fun b hb => ?_; replace hD := And.intro hb hD; clear hb; try simp only [fresh_cons, fresh_nil, and_true, ne_eq, neF] at hD)); try simp only [Go.Ab.zCD_1, go_sem, hD, hli, ie, i0, w1, fp, c1, true_implies]) | (apply hK; clear hK K)
      all_goals
        refine ret_pure ?_; simp only [resL_tmp, resL_nil, tupOf, go_sem, hD]
    by_cases c2 : ((l.length : Nat) : Int) ≤ q
    · rw [if_neg (by omega)] at hC
      subst hC
      repeat' first | (refine SW.seq_k fun K hK => ?_) | (refine SW.block ?_) | ((first | refine SW.region ?_ | refine SW.regionZ (id := 8) (Checked.mixed Tryz.checked) Go.Ab.zCD_1 (by kernel_rfl) ?_ | refine SW.cond ?_ | refine SW.skip ?_ | refine SW.ret ?_ | (refine allF_i fun b hb => ?_; replace hD := And.intro hb hD; clear hb; try simp only [fresh_cons, fresh_nil, and_true, ne_eq, neF] at hD)); try simp only [Go.Ab.zCD_1, go_sem, hD, hli, ie, i0, w1, fp, c1, c2, true_implies]) | (apply hK; clear hK K)
      all_goals
        refine ret_pure ?_; simp only [resL_tmp, resL_nil, tupOf, go_sem, hD]
    by_cases c3 : ps.length = a.length
    rotate_left
    · rw [if_neg (fun x => c3 x.2.2.1)] at hC
      subst hC
      have c3i : ¬ ((ps.length : Nat) : Int) = ((a.length : Nat) : Int) := by omega
      repeat' first | (refine SW.seq_k fun K hK => ?_) | (refine SW.block ?_) | ((first | refine SW.region ?_ | refine SW.regionZ (id := 8) (Checked.mixed Tryz.checked) Go.Ab.zCD_1 (by kernel_rfl) ?_ | refine SW.cond ?_ | refine SW.skip ?_ | refine SW.ret ?_ | (refine allF_i fun b hb => ?_; replace hD := And.intro hb hD; clear hb; try simp only [fresh_cons, fresh_nil, and_true, ne_eq, neF] at hD)); try simp only [Go.Ab.zCD_1, go_sem, hD, hli, ie, i0, w1, fp, c1, c2, c3i, true_implies]) | (apply hK; clear hK K)
      all_goals
        refine ret_pure ?_; simp only [resL_tmp, resL_nil, tupOf, go_sem, hD]
    have c3i : ((ps.length : Nat) : Int) = ((a.length : Nat) : Int) := by omega
    have dm := getD_mem' d0 (show q.toNat < l.length by omega)
    have fd : dpF l q.toNat = dC (l.getD q.toNat d0) := rfl
    have q0 : 0 ≤ q := by omega
    have ql : q < ((l.length : Nat) : Int) := by omega
    have hlrd := hlr _ dm
    have hdl := hok _ dm
    generalize l.getD q.toNat d0 = d at *
    obtain ⟨df, dl, dt, dr⟩ := d
    simp only at hC
    replace hlrd : dl.length = dr.length := hlrd
    replace hdl : dl.length ≤ 1000000 := hdl
    by_cases c4 : df = t
    rotate_left
    · rw [if_neg (fun x => c4 x.2.2.2)] at hC
      subst hC
      have ee : (df.toList == t.toList) = false := by rw [Bool.eq_false_iff]; exact fun h => c4 (barr_eq.1 h)
      repeat' first | (refine SW.seq_k fun K hK => ?_) | (refine SW.block ?_) | ((first | refine SW.region ?_ | refine SW.regionZ (id := 8) (Checked.mixed Tryz.checked) Go.Ab.zCD_1 (by kernel_rfl) ?_ | refine SW.cond ?_ | refine SW.skip ?_ | refine SW.ret ?_ | (refine allF_i fun b hb => ?_; replace hD := And.intro hb hD; clear hb; try simp only [fresh_cons, fresh_nil, and_true, ne_eq, neF] at hD)); try simp only [Go.Ab.zCD_1, go_sem, hD, hli, ie, i0, w1, fp, c1, c2, c3i, fd, q0, ql, ee, true_implies]) | (apply hK; clear hK K)
      all_goals
        refine ret_pure ?_; simp only [resL_tmp, resL_nil, tupOf, go_sem, hD]
    have ee : (df.toList == t.toList) = true := barr_eq.2 c4
    rw [if_pos ⟨q0, ql, c3, c4⟩] at hC
    have hC0 : R = (match stR [] (stpC ⟨df, dl, dt, dr⟩ (ps.drop 0) (a.drop 0)) with
      | none => false
      | some a' => chkP l gt gr (pr.drop (i + 1)) dt a') := by
      rw [hC]
      simp only [List.drop_zero]
      cases stpC ⟨df, dl, dt, dr⟩ ps a <;> rfl
    clear hC
    repeat' first | (refine SW.seq_k fun K hK => ?_) | (refine SW.block ?_) | ((first | refine SW.region ?_ | refine SW.regionZ (id := 8) (Checked.mixed Tryz.checked) Go.Ab.zCD_1 (by kernel_rfl) ?_ | refine SW.cond ?_ | refine SW.skip ?_ | (refine allF_i fun b hb => ?_; replace hD := And.intro hb hD; clear hb; try simp only [fresh_cons, fresh_nil, and_true, ne_eq, neF] at hD)); try simp only [Go.Ab.zCD_1, go_sem, hD, hli, ie, i0, w1, fp, c1, c2, c3i, fd, q0, ql, ee, true_implies]) | (apply hK; clear hK K)
    obtain ⟨nb, rfl⟩ : ∃ x, x = b := ⟨_, rfl⟩
    obtain ⟨pb, rfl⟩ : ∃ x, x = b := ⟨_, rfl⟩
    have e1 : ¬ nb = gb := by simp [hD]
    have e2 : ¬ gb = nb := by simp [hD]
    have e3 : ¬ nb = sb := by simp [hD]
    have e4 : ¬ sb = nb := by simp [hD]
    have e5 : ¬ nb = pb := by simp [hD]
    have e6 : ¬ pb = nb := by simp [hD]
    have e7 : ¬ pb = gb := by simp [hD]
    have e8 : ¬ gb = pb := by simp [hD]
    have e9 : ¬ pb = sb := by simp [hD]
    have ea : ¬ sb = pb := by simp [hD]
    have hIO := hI
    have ow1 := w1
    clear hI
    clear hD
    have hE := And.intro (And.intro (And.intro (eq_false e1) (eq_false e2)) (And.intro (And.intro (eq_false e3) (eq_false e4)) (And.intro (eq_false k1) (eq_false k2)))) (And.intro (And.intro (eq_false e5) (eq_false e6)) (And.intro (And.intro (eq_false e7) (eq_false e8)) (And.intro (eq_false e9) (eq_false ea))))
    have hstp := fun m (h : m < a.length) => stpC_drop (d := ⟨df, dl, dt, dr⟩) c3 h
    obtain ⟨I, hI⟩ : ∃ I : Nat → St → Prop, ∀ k S, I k S ↔ (∃ (m : Nat) (N : List Int) (h : Heap), k = a.length - m ∧ m ≤ a.length ∧ N.length = m ∧ R = (match stR N (stpC ⟨df, dl, dt, dr⟩ (ps.drop m) (a.drop m)) with | none => false | some a' => chkP l gt gr (pr.drop (i + 1)) dt a') ∧ ((m = 0 ∧ h = [(nb, .svs [Str dt, SN, I64 0]), (pb, .svs [I64 q, IL ps]), (sb, .svs [Str t, IL a, I64 0]), (gb, .svs (dC ⟨gf, gl, gt, gr⟩))]) ∨ (0 < m ∧ ∃ g1, fresh [(nb, .svs []), (pb, .svs []), (sb, .svs []), (gb, .svs [])] g1 ∧ h = [(g1, .ints .i64 N), (nb, .svs [Str dt, .os g1 0 m 1, I64 0]), (pb, .svs [I64 q, IL ps]), (sb, .svs [Str t, IL a, I64 0]), (gb, .svs (dC ⟨gf, gl, gt, gr⟩))])) ∧ S = ⟨[(1, DpL l), (3, PL pr), (6, .op gb 0), (8, SB false), (9, .op sb 0), (10, I64 i), (11, .op pb 0), (12, .op nb 0), (13, I64 m)], h⟩) := ⟨fun k S => _, fun _ _ => Iff.rfl⟩
    refine SW.loop' I (a.length) ((hI _ _).2 ⟨0, [], _, rfl, Nat.zero_le _, rfl, hC0, .inl ⟨rfl, rfl⟩, rfl⟩) (by repeat' (first | exact rfl | exact trivial | constructor)) ?_
    intro k S hIn
    obtain ⟨m, N, h, rfl, hi, hNl, hC, hB, rfl⟩ := (hI _ _).1 hIn
    clear hIn
    have ie : ((m : Nat) : Int).toNat = m := Int.toNat_natCast _
    have i0 : (0 : Int) ≤ ((m : Nat) : Int) := by omega
    clear hC0
    have u0 : ∀ g1, fresh [(nb, .svs []), (pb, .svs []), (sb, .svs []), (gb, .svs [])] g1 → ((nb = g1) = False ∧ (g1 = nb) = False) ∧ ((pb = g1) = False ∧ (g1 = pb) = False) ∧ ((sb = g1) = False ∧ (g1 = sb) = False) ∧ ((gb = g1) = False ∧ (g1 = gb) = False) := fun g1 u1 => by simpa only [fresh_cons, fresh_nil, and_true, ne_eq, neF] using u1
    by_cases hlt : m < a.length
    · have hli : ((m : Nat) : Int) < (((a.length) : Nat) : Int) := by omega
      have w1 : IntKind.i64.wrap ((m : Int) + 1) = ((m + 1 : Nat) : Int) := by rw [i64_wrap (by omega) (by omega)]; omega
      have mal := hli
      rw [hstp m hlt] at hC
      simp only at hC
      have fq : iF ps m = [I64 (ps.getD m 0)] := rfl
      have fa : iF a m = [I64 (a.getD m 0)] := rfl
      have mps : ((m : Nat) : Int) < ((ps.length : Nat) : Int) := by omega
      generalize ps.getD m 0 = k at *
      by_cases b1 : k < 0
      · rw [if_neg (by omega)] at hC
        have hC2 : R = false := hC
        subst hC2
        rcases hB with ⟨hm0, rfl⟩ | ⟨hm0, g1, u1, rfl⟩
        · have hD := hE
          repeat' first | (refine SW.seq_k fun K hK => ?_) | (refine SW.block ?_) | ((first | refine SW.region ?_ | refine SW.regionZ (id := 15) (Checked.mixed Tryz.checked) Go.Ab.zCD_2 (by kernel_rfl) ?_ | refine SW.cond ?_ | refine SW.skip ?_ | refine SW.ret ?_); try simp only [Go.Ab.zCD_2, go_sem, hD, hli, ie, i0, w1, fq, b1, mal, mps, true_implies]) | (apply hK; clear hK K)
          all_goals
            refine ret_pure ?_; simp only [resL_tmp, resL_nil, tupOf, go_sem, hD]
        · have hD := And.intro (u0 g1 u1) hE
          repeat' first | (refine SW.seq_k fun K hK => ?_) | (refine SW.block ?_) | ((first | refine SW.region ?_ | refine SW.regionZ (id := 15) (Checked.mixed Tryz.checked) Go.Ab.zCD_2 (by kernel_rfl) ?_ | refine SW.cond ?_ | refine SW.skip ?_ | refine SW.ret ?_); try simp only [Go.Ab.zCD_2, go_sem, hD, hli, ie, i0, w1, fq, b1, mal, mps, true_implies]) | (apply hK; clear hK K)
          all_goals
            refine ret_pure ?_; simp only [resL_tmp, resL_nil, tupOf, go_sem, hD]
      by_cases b2 : ((dl.length : Nat) : Int) ≤ k
      · rw [if_neg (by omega)] at hC
        have hC2 : R = false := hC
        subst hC2
        rcases hB with ⟨hm0, rfl⟩ | ⟨hm0, g1, u1, rfl⟩
        · have hD := hE
          repeat' first | (refine SW.seq_k fun K hK => ?_) | (refine SW.block ?_) | ((first | refine SW.region ?_ | refine SW.regionZ (id := 15) (Checked.mixed Tryz.checked) Go.Ab.zCD_2 (by kernel_rfl) ?_ | refine SW.cond ?_ | refine SW.skip ?_ | refine SW.ret ?_); try simp only [Go.Ab.zCD_2, go_sem, hD, hli, ie, i0, w1, fq, b1, b2, mal, mps, fd, q0, ql, true_implies]) | (apply hK; clear hK K)
          all_goals
            refine ret_pure ?_; simp only [resL_tmp, resL_nil, tupOf, go_sem, hD]
        · have hD := And.intro (u0 g1 u1) hE
          repeat' first | (refine SW.seq_k fun K hK => ?_) | (refine SW.block ?_) | ((first | refine SW.region ?_ | refine SW.regionZ (id := 15) (Checked.mixed Tryz.checked) Go.Ab.zCD_2 (by kernel_rfl) ?_ | refine SW.cond ?_ | refine SW.skip ?_ | refine SW.ret ?_); try simp only [Go.Ab.zCD_2, go_sem, hD, hli, ie, i0, w1, fq, b1, b2, mal, mps, fd, q0, ql, true_implies]) | (apply hK; clear hK K)
          all_goals
            refine ret_pure ?_; simp only [resL_tmp, resL_nil, tupOf, go_sem, hD]
      have kk0 : 0 ≤ k := by omega
      have kl : k < ((dl.length : Nat) : Int) := by omega
      have kr : k < ((dr.length : Nat) : Int) := by omega
      have fl : iF dl k.toNat = [I64 (dl.getD k.toNat 0)] := rfl
      have fr : iF dr k.toNat = [I64 (dr.getD k.toNat 0)] := rfl
      by_cases b3 : dl.getD k.toNat 0 = a.getD m 0
      rotate_left
      · rw [if_neg (fun x => b3 x.2.2)] at hC
        have hC2 : R = false := hC
        subst hC2
        generalize dl.getD k.toNat 0 = u at *
        generalize a.getD m 0 = v at *
        rcases hB with ⟨hm0, rfl⟩ | ⟨hm0, g1, u1, rfl⟩
        · have hD := hE
          repeat' first | (refine SW.seq_k fun K hK => ?_) | (refine SW.block ?_) | ((first | refine SW.region ?_ | refine SW.regionZ (id := 15) (Checked.mixed Tryz.checked) Go.Ab.zCD_2 (by kernel_rfl) ?_ | refine SW.cond ?_ | refine SW.skip ?_ | refine SW.ret ?_); try simp only [Go.Ab.zCD_2, go_sem, hD, hli, ie, i0, w1, fq, b1, b2, b3, kk0, kl, kr, fl, fa, mal, mps, fd, q0, ql, true_implies]) | (apply hK; clear hK K)
          all_goals
            refine ret_pure ?_; simp only [resL_tmp, resL_nil, tupOf, go_sem, hD]
        · have hD := And.intro (u0 g1 u1) hE
          repeat' first | (refine SW.seq_k fun K hK => ?_) | (refine SW.block ?_) | ((first | refine SW.region ?_ | refine SW.regionZ (id := 15) (Checked.mixed Tryz.checked) Go.Ab.zCD_2 (by kernel_rfl) ?_ | refine SW.cond ?_ | refine SW.skip ?_ | refine SW.ret ?_); try simp only [Go.Ab.zCD_2, go_sem, hD, hli, ie, i0, w1, fq, b1, b2, b3, kk0, kl, kr, fl, fa, mal, mps, fd, q0, ql, true_implies]) | (apply hK; clear hK K)
          all_goals
            refine ret_pure ?_; simp only [resL_tmp, resL_nil, tupOf, go_sem, hD]
      rw [if_pos ⟨kk0, kl, b3⟩] at hC
      have hC2 : R = (match stR (N ++ [dr.getD k.toNat 0]) (stpC ⟨df, dl, dt, dr⟩ (ps.drop (m + 1)) (a.drop (m + 1))) with | none => false | some a' => chkP l gt gr (pr.drop (i + 1)) dt a') := by
        rw [hC]
        cases stpC ⟨df, dl, dt, dr⟩ (ps.drop (m + 1)) (a.drop (m + 1)) with
        | none => rfl
        | some r => simp [stR]
      clear hC
      rw [b3] at fl
      generalize dr.getD k.toNat 0 = u at *
      generalize a.getD m 0 = v at *
      have ba : (m + 1) * 8 ≤ 140737488355328 := by omega
      have hl2 : (N ++ [u]).length = m + 1 := by rw [List.length_append, hNl]; rfl
      rcases hB with ⟨hm0, rfl⟩ | ⟨hm0, g1, u1, rfl⟩
      · subst hm0
        have hpre : N = [] := List.eq_nil_of_length_eq_zero hNl
        subst hpre
        have hD := hE
        repeat' first | (with_reducible refine And.intro (by omega) ?_) | (refine SW.seq_k fun K hK => ?_) | (refine SW.block ?_) | ((first | refine SW.region ?_ | refine SW.regionZ (id := 15) (Checked.mixed Tryz.checked) Go.Ab.zCD_2 (by kernel_rfl) ?_ | refine SW.regionZ (id := 17) (Checked.mixed Tryz.checked) Go.Ab.zCD_3 (by kernel_rfl) ?_ | refine SW.cond ?_ | refine SW.skip ?_ | (refine allF_i fun b hb => ?_; replace hD := And.intro hb hD; clear hb; try simp only [fresh_cons, fresh_nil, and_true, ne_eq, neF] at hD) | simp only [appK, appOsK]); try simp only [Go.Ab.zCD_2, Go.Ab.zCD_3, go_sem, hD, hli, ie, i0, w1, fq, b1, b2, kk0, kl, kr, fl, fr, fa, mal, mps, fd, q0, ql, ba, true_implies]) | (refine And.intro (by omega) ?_) | (refine ifI (fun hc => ?_) (fun hc => ?_) <;> first | (exfalso; omega) | skip) | (apply hK; clear hK K)
        all_goals
          obtain ⟨c1, rfl⟩ : ∃ x, x = b := ⟨_, rfl⟩
          refine Rnd.le (St.le_pick _ ?_ ?_) (Rnd.sub (a.length - (0 + 1)) (by omega) ((hI _ _).2 ⟨0 + 1, [u], [(c1, .ints .i64 [u]), (nb, .svs [Str dt, .os c1 0 1 1, I64 0]), (pb, .svs [I64 q, IL ps]), (sb, .svs [Str t, IL a, I64 0]), (gb, .svs (dC ⟨gf, gl, gt, gr⟩))], rfl, by omega, rfl, hC2, .inr ⟨by omega, c1, by simp [fresh_cons, fresh_nil, hD], rfl⟩, rfl⟩) (by repeat' (first | exact rfl | exact trivial | constructor)))
          · repeat' (first | exact (fun x hx => (List.not_mem_nil hx).elim) | refine List.forall_mem_cons.2 ⟨?_, ?_⟩ | exact List.mem_cons_self | apply List.mem_cons_of_mem)
          · simp [fresh_cons, fresh_nil, hD]
      · have hD := And.intro (u0 g1 u1) hE
        repeat' first | (with_reducible refine And.intro (by omega) ?_) | (refine SW.seq_k fun K hK => ?_) | (refine SW.block ?_) | ((first | refine SW.region ?_ | refine SW.regionZ (id := 15) (Checked.mixed Tryz.checked) Go.Ab.zCD_2 (by kernel_rfl) ?_ | refine SW.regionZ (id := 17) (Checked.mixed Tryz.checked) Go.Ab.zCD_3 (by kernel_rfl) ?_ | refine SW.cond ?_ | refine SW.skip ?_ | (refine allF_i fun b hb => ?_; replace hD := And.intro hb hD; clear hb; try simp only [fresh_cons, fresh_nil, and_true, ne_eq, neF] at hD) | simp only [appK, appOsK]); try simp only [Go.Ab.zCD_2, Go.Ab.zCD_3, go_sem, hD, hli, ie, i0, w1, fq, b1, b2, kk0, kl, kr, fl, fr, fa, mal, mps, fd, q0, ql, ba, hNl, true_implies]) | (apply hK; clear hK K)
        all_goals
          obtain ⟨c1, rfl⟩ : ∃ x, x = b := ⟨_, rfl⟩
          refine Rnd.le (St.le_pick _ ?_ ?_) (Rnd.sub (a.length - (m + 1)) (by omega) ((hI _ _).2 ⟨m + 1, N ++ [u], [(c1, .ints .i64 (N ++ [u])), (nb, .svs [Str dt, .os c1 0 (m + 1) 1, I64 0]), (pb, .svs [I64 q, IL ps]), (sb, .svs [Str t, IL a, I64 0]), (gb, .svs (dC ⟨gf, gl, gt, gr⟩))], rfl, by omega, hl2, hC2, .inr ⟨by omega, c1, by simp [fresh_cons, fresh_nil, hD], rfl⟩, rfl⟩) (by repeat' (first | exact rfl | exact trivial | constructor)))
          · repeat' (first | exact (fun x hx => (List.not_mem_nil hx).elim) | refine List.forall_mem_cons.2 ⟨?_, ?_⟩ | exact List.mem_cons_self | apply List.mem_cons_of_mem)
          · simp [fresh_cons, fresh_nil, hD]
    · have hli : ¬ ((m : Nat) : Int) < (((a.length) : Nat) : Int) := by omega
      obtain rfl : m = a.length := by omega
      have hC2 : R = chkP l gt gr (pr.drop (i + 1)) dt N := by
        rw [hC, List.drop_length, ← c3, List.drop_length]
        simp [stpC, stR]
      clear hC
      apply Ab.SW.le (S' := ⟨[(1, DpL l), (3, PL pr), (6, .op gb 0), (8, SB false), (9, .op sb 0), (10, I64 i), (12, .op nb 0), (13, I64 a.length)], [(nb, .svs [Str dt, IL N, I64 0]), (sb, .svs [Str t, IL a, I64 0]), (gb, .svs (dC ⟨gf, gl, gt, gr⟩))]⟩)
      · rcases hB with ⟨hm0, rfl⟩ | ⟨hm0, g1, u1, rfl⟩
        · have e2 : N = [] := List.eq_nil_of_length_eq_zero (by omega)
          subst e2
          have s1 := St.le_nilC (t := [(1, DpL l), (3, PL pr), (6, .op gb 0), (8, SB false), (9, .op sb 0), (10, I64 i), (11, .op pb 0), (12, .op nb 0), (13, I64 a.length)]) (h := [(nb, .svs [Str dt, SN, I64 0]), (pb, .svs [I64 q, IL ps]), (sb, .svs [Str t, IL a, I64 0]), (gb, .svs (dC ⟨gf, gl, gt, gr⟩))]) (c := nb) (j := 1) (sz := 1) (f := iF []) (by rw [find_cons, if_pos rfl]) (by show 1 < 3; omega) rfl
          rw [upd_cons, if_pos rfl] at s1
          refine s1.trans ((St.le_pick [(nb, .svs [Str dt, IL [], I64 0]), (sb, .svs [Str t, IL a, I64 0]), (gb, .svs (dC ⟨gf, gl, gt, gr⟩))] ?_ ?_).trans (St.le_sub (by repeat' (first | exact rfl | exact trivial | constructor))))
          · repeat' (first | exact (fun x hx => (List.not_mem_nil hx).elim) | refine List.forall_mem_cons.2 ⟨?_, ?_⟩ | exact List.mem_cons_self | apply List.mem_cons_of_mem)
          · simp [fresh_cons, fresh_nil, hE]
        · have u2 := u1
          simp only [fresh_cons, fresh_nil, and_true, ne_eq] at u1
          obtain ⟨⟨a1, a2⟩, _⟩ := u1
          have s1 := St.le_freezeC (t := [(1, DpL l), (3, PL pr), (6, .op gb 0), (8, SB false), (9, .op sb 0), (10, I64 i), (11, .op pb 0), (12, .op nb 0), (13, I64 a.length)]) (h := [(g1, .ints .i64 N), (nb, .svs [Str dt, .os g1 0 a.length 1, I64 0]), (pb, .svs [I64 q, IL ps]), (sb, .svs [Str t, IL a, I64 0]), (gb, .svs (dC ⟨gf, gl, gt, gr⟩))]) (c := nb) (j := 1) (b := g1) (off := 0) (len := a.length) (sz := 1) (by rw [find_cons, if_neg a2, find_cons, if_pos rfl]) a1 (by show 1 < 3; omega) rfl (by rw [find_cons, if_pos rfl]) (by show 0 + a.length * 1 ≤ N.length; omega) (iF N) (fun p _ => ints_get N p)
          rw [del_cons, if_pos rfl, upd_cons, if_pos rfl] at s1
          have hIL : SV.fl a.length 1 (iF N) = IL N := by unfold IL; rw [hNl]
          refine s1.trans ((St.le_pick [(nb, .svs [Str dt, IL N, I64 0]), (sb, .svs [Str t, IL a, I64 0]), (gb, .svs (dC ⟨gf, gl, gt, gr⟩))] ?_ ?_).trans (St.le_sub (by repeat' (first | exact rfl | exact trivial | constructor))))
          · rw [← hIL]
            repeat' (first | exact (fun x hx => (List.not_mem_nil hx).elim) | refine List.forall_mem_cons.2 ⟨?_, ?_⟩ | exact List.mem_cons_self | apply List.mem_cons_of_mem)
          · simp [fresh_cons, fresh_nil, hE]
      · have hD := hE
        repeat' first | (refine SW.seq_k fun K hK => ?_) | ((first | refine SW.region ?_ | refine SW.cond ?_ | refine SW.exit ?_); try simp only [go_sem, hD, hli, ow1, true_implies]) | (apply hK; clear hK K) | (clear hK K; apply hK; clear hK K)
        all_goals
          refine Rnd.le (St.le_pick [(sb, .svs [Str dt, IL N, I64 0]), (gb, .svs (dC ⟨gf, gl, gt, gr⟩))] ?_ ?_) (Rnd.sub (pr.length - (i + 1)) (by omega) ((hIO _ _).2 ⟨i + 1, dt, N, rfl, by omega, hC2, by omega, rfl⟩) (by repeat' (first | exact rfl | exact trivial | constructor)))
          · repeat' (first | exact (fun x hx => (List.not_mem_nil hx).elim) | refine List.forall_mem_cons.2 ⟨?_, ?_⟩ | exact List.mem_cons_self | apply List.mem_cons_of_mem)
          · simp [fresh_cons, fresh_nil, hD]
  · have hli : ¬ ((i : Nat) : Int) < (((pr.length) : Nat) : Int) := by omega
    rw [List.drop_of_length_le (by omega)] at hC
    have hC2 : R = (decide (t = gt) && decide (a = gr)) := hC
    clear hC
    have c := same_r a gr (by omega) hgr gr.length rfl (iF gr) (fun j hj => rfl)
    generalize decide (a = gr) = w at *
    by_cases e : t = gt
    · have ee : (t.toList == gt.toList) = true := barr_eq.2 e
      rw [decide_eq_true e, Bool.true_and] at hC2
      subst hC2
      repeat' first | (refine SW.seq_k fun K hK => ?_) | ((first | refine SW.region ?_ | refine SW.cond ?_ | refine SW.exit ?_ | refine SW.ret ?_ | refine Call.of_pure (c) ?_); try simp only [go_sem, hD, hli, ee, true_implies]) | (apply hK; clear hK K) | (clear hK K; apply hK; clear hK K)
      all_goals
        refine ret_pure ?_; simp only [resL_tmp, resL_nil, tupOf, go_sem, hD]
    · have ee : (t.toList == gt.toList) = false := by rw [Bool.eq_false_iff]; exact fun h => e (barr_eq.1 h)
      rw [decide_eq_false e, Bool.false_and] at hC2
      subst hC2
      repeat' first | (refine SW.seq_k fun K hK => ?_) | ((first | refine SW.region ?_ | refine SW.cond ?_ | refine SW.exit ?_ | refine SW.ret ?_); try simp only [go_sem, hD, hli, ee, true_implies]) | (apply hK; clear hK K) | (clear hK K; apply hK; clear hK K)
      all_goals
        refine ret_pure ?_; simp only [resL_tmp, resL_nil, tupOf, go_sem, hD]
end Go.Proofs.YtblfodnajpamfaaGreatDoor
namespace Go.Ab.A34
open Go Go.Ab Go.Proofs
abbrev U8 (n : Int) : SV := .sc (.int .u8 n)
def codeV (c : Int) : V3 :=
  if c % 12 = 0 then (1, 0, ⟨#[]⟩) else if c % 12 = 1 then (1, 1, ⟨#[]⟩) else if c % 12 = 2 then (1, 2, ⟨#[]⟩) else if c % 12 = 3 then (0, 0, ⟨#[]⟩)
  else if c % 12 = 4 then (2, 0, ⟨#[97]⟩) else if c % 12 = 5 then (2, 0, ⟨#[98]⟩) else if c % 12 = 6 then (2, 0, ⟨#[]⟩) else if c % 12 = 7 then (3, 1, ⟨#[]⟩)
  else if c % 12 = 8 then (1, -1, ⟨#[]⟩) else if c % 12 = 9 then (2, 0, ⟨#[97, 98]⟩) else if c % 12 = 10 then (3, 2, ⟨#[]⟩) else (1, 7, ⟨#[]⟩)
def nm8 : List ByteArray := [⟨#[97]⟩, ⟨#[98]⟩, ⟨#[99]⟩, ⟨#[100]⟩, ⟨#[101]⟩, ⟨#[102]⟩, ⟨#[103]⟩, ⟨#[104]⟩]
abbrev UL (l : List Int) : SV := .fl l.length 1 (fun j => [U8 (l.getD j 0)])
abbrev UU (l : List (List Int)) : SV := .fl l.length 1 (fun i => [UL (l.getD i [])])
structure Rc where
  attrs : Int
  gap : Int
  rows : List (List Int)
abbrev RCC (x : Rc) : List SV := [U8 x.attrs, U8 x.gap, UU x.rows]
abbrev RC (x : Rc) : SV := .agg (RCC x)
def okRc (x : Rc) : Prop := (0 ≤ x.attrs ∧ x.attrs < 256) ∧ (0 ≤ x.gap ∧ x.gap < 256) ∧ ∀ r ∈ x.rows, ∀ c ∈ r, 0 ≤ c ∧ c < 256
def rowS (gap : Int) (n i : Nat) (r : List Int) : R3 := (1 + (i : Int) * (1 + gap % 3), (List.range n).map fun k => codeV (r.getD k 0))
def wideS (x : Rc) (n : Nat) : Tb := ⟨⟨#[114]⟩, nm8.take n, (List.range x.rows.length).map fun i => rowS x.gap n i (x.rows.getD i [])⟩
end Go.Ab.A34
namespace Go.Proofs.YtblfodnajpamfaaGreatDoor
open Go Go.Ab Go.Ab.A34
variable [Gl] [Tabs]
theorem code_r (c : Int) (h1 : 0 ≤ c) (h2 : c < 256) : PCall Tryz.prog 91 [U8 c] (VV (codeV c)) := by
  have hm : c.tmod 12 = c % 12 := Int.tmod_eq_emod_of_nonneg h1
  have hk : c % 12 = 0 ∨ c % 12 = 1 ∨ c % 12 = 2 ∨ c % 12 = 3 ∨ c % 12 = 4 ∨ c % 12 = 5 ∨ c % 12 = 6 ∨ c % 12 = 7 ∨ c % 12 = 8 ∨ c % 12 = 9 ∨ c % 12 = 10 ∨ c % 12 = 11 := by omega
  obtain ⟨X, hX⟩ : ∃ X, X = codeV c := ⟨_, rfl⟩
  rw [← hX]
  unfold codeV at hX
  rcases hk with h | h | h | h | h | h | h | h | h | h | h | h
  all_goals
    rw [h] at hm hX
    simp only [Int.reduceEq, if_true, if_false] at hX
    subst hX
    refine Call.enter' (N := 39) (rs := [.cell 2 110]) Tryz.func91 rfl rfl rfl (by decide) rfl ?_; simp only [argT]; have hD : (0 : Nat) = 0 := rfl
    repeat' first | (refine SW.seq_k fun K hK => ?_) | (refine SW.block ?_) | ((first | refine SW.region ?_ | refine SW.cond ?_ | refine SW.skip ?_ | refine SW.ret ?_ | (refine allF_i fun b hb => ?_; replace hD := And.intro hb hD; clear hb; try simp only [fresh_cons, fresh_nil, and_true, ne_eq, neF] at hD)); try simp only [go_sem, hD, hm]) | (apply hK; clear hK K)
    apply ret_cell (i := 2) (n := 3); exact rfl; (simp only [go_sem, hD]; try rfl); (first | exact Nat.le_refl _ | decide); simp only [resL_tmp, resL_cellE, resC_ok, resL_nil, tupOf, getN, go_sem, hD]
end Go.Proofs.YtblfodnajpamfaaGreatDoor
def Go.Ab.zJ2_1 : Go.Ab.OZ := (.one 0 [0, 1, 5, 6, 7] (.one 1 [1, 5, 6, 7] (.one 2 [2, 3, 4, 5, 6, 7] (.one 3 [3, 4, 5, 6, 7] (.alt 4 (.alt 5 (.one 6 [6, 7] (.alt 7 .done .nil)) .nil) .nil)))))
namespace Go.Proofs.YtblfodnajpamfaaGreatDoor
open Go Go.Ab Go.Ab.A34
variable [Gl] [Tabs]
theorem wide_r (x : Rc) (hx : okRc x) (n : Nat) (hn : n ≤ 5) (hr : x.rows.length ≤ 1000) : PCall Tryz.prog 64 [RC x, I64 n] (TB (wideS x n)) := by
  obtain ⟨at', gap, rows⟩ := x
  obtain ⟨hx1, hx2, hx3⟩ := hx
  unfold wideS
  simp only at hx1 hx2 hx3 hr ⊢
  refine Call.enter' (N := 67) (rs := [.cell 4 75]) Tryz.func64 rfl rfl rfl (by decide) rfl ?_; simp only [argT]; have hD : (0 : Nat) = 0 := rfl
  refine SW.seq_k fun K hK => ?_
  (refine SW.region ?_; try simp only [go_sem, hD])
  ((refine allF_i fun b hb => ?_; replace hD := And.intro hb hD; clear hb; try simp only [fresh_cons, fresh_nil, and_true, ne_eq, neF] at hD); try simp only [go_sem, hD])
  ((refine allF_i fun b hb => ?_; replace hD := And.intro hb hD; clear hb; try simp only [fresh_cons, fresh_nil, and_true, ne_eq, neF] at hD); try simp only [go_sem, hD])
  (apply hK; clear hK K)
  obtain ⟨rb, rfl⟩ : ∃ x, x = b := ⟨_, rfl⟩
  obtain ⟨xb, rfl⟩ : ∃ x, x = b := ⟨_, rfl⟩
  have hrx : ¬ rb = xb := by simp [hD]
  have hxr : ¬ xb = rb := by simp [hD]
  clear hD
  have hD := And.intro (eq_false hrx) (eq_false hxr)
  refine SW.seq_k fun K hK => ?_
  have key : ∃ C Q', (∀ S, Ab.SW Tryz.prog 67 C Q' S → K S) ∧ ∀ tb, ¬ tb = rb → ¬ tb = xb → ¬ rb = tb → ¬ xb = tb → Ab.SW Tryz.prog 67 C Q' ⟨[(1, I64 n), (2, .op xb 0), (4, .op rb 0), (5, .op tb 0)], [(xb, .svs (RCC ⟨at', gap, rows⟩)), (tb, .svs [Str ⟨#[114]⟩, .fl n 1 (sF (nm8.take n)), .sc (.slice none 0 0)]), (rb, .svs [Str ⟨#[]⟩, .sc (.slice none 0 0), .sc (.slice none 0 0)])]⟩ := by
    refine ⟨_, _, hK, fun tb d1 d2 d3 d4 => ?_⟩
    clear hK K
    clear hD
    have hD := And.intro (eq_false d1) (And.intro (eq_false d2) (And.intro (eq_false d3) (And.intro (eq_false d4) (And.intro (eq_false hrx) (eq_false hxr)))))
    repeat' first | (refine SW.seq_k fun K hK => ?_) | (refine SW.block ?_) | (refine SW.region ?_; try simp only [go_sem, hD]) | (apply hK; clear hK K)
    obtain ⟨I, hI⟩ : ∃ I : Nat → St → Prop, ∀ k S, I k S ↔ (∃ (i : Nat) (h : Heap), k = rows.length - i ∧ i ≤ rows.length ∧ ((i = 0 ∧ h = [(xb, .svs (RCC ⟨at', gap, rows⟩)), (tb, .svs [Str ⟨#[114]⟩, .fl n 1 (sF (nm8.take n)), .sc (.slice none 0 0)]), (rb, .svs [Str ⟨#[]⟩, .sc (.slice none 0 0), .sc (.slice none 0 0)])]) ∨ (0 < i ∧ ∃ g, ¬ g = xb ∧ ¬ xb = g ∧ ¬ g = tb ∧ ¬ tb = g ∧ ¬ g = rb ∧ ¬ rb = g ∧ h = [(xb, .svs (RCC ⟨at', gap, rows⟩)), (g, .svs (fC rC ((List.range i).map fun j => rowS gap n j (rows.getD j [])))), (tb, .svs [Str ⟨#[114]⟩, .fl n 1 (sF (nm8.take n)), .os g 0 i 2]), (rb, .svs [Str ⟨#[]⟩, .sc (.slice none 0 0), .sc (.slice none 0 0)])])) ∧ S = ⟨[(1, I64 n), (2, .op xb 0), (4, .op rb 0), (5, .op tb 0), (6, I64 i)], h⟩) := ⟨fun k S => _, fun _ _ => Iff.rfl⟩
    refine SW.loop' I (rows.length) ((hI _ _).2 ⟨0, _, rfl, Nat.zero_le _, .inl ⟨rfl, rfl⟩, rfl⟩) (by repeat' (first | exact rfl | exact trivial | constructor)) ?_
    intro k S hIn
    obtain ⟨i, h, rfl, hi, hB, rfl⟩ := (hI _ _).1 hIn
    clear hIn
    have ie : ((i : Nat) : Int).toNat = i := Int.toNat_natCast _
    have i0 : (0 : Int) ≤ ((i : Nat) : Int) := by omega
    by_cases hlt : i < rows.length
    · have hli : ((i : Nat) : Int) < (((rows.length) : Nat) : Int) := by omega
      have w1 : IntKind.i64.wrap ((i : Int) + 1) = ((i + 1 : Nat) : Int) := by rw [i64_wrap (by omega) (by omega)]; omega
      have hg3 : gap.tmod 3 = gap % 3 := Int.tmod_eq_emod_of_nonneg hx2.1
      have q1 : IntKind.i64.wrap (gap % 3) = gap % 3 := by rw [i64_wrap (by omega) (by omega)]
      have q2 : IntKind.i64.wrap (1 + gap % 3) = 1 + gap % 3 := by rw [i64_wrap (by omega) (by omega)]
      have q5 : 0 ≤ (i : Int) * (1 + gap % 3) ∧ (i : Int) * (1 + gap % 3) ≤ 3000 := by
        have : gap % 3 = 0 ∨ gap % 3 = 1 ∨ gap % 3 = 2 := by omega
        rcases this with h | h | h <;> rw [h] <;> omega
      have q3 : IntKind.i64.wrap ((i : Int) * (1 + gap % 3)) = (i : Int) * (1 + gap % 3) := by rw [i64_wrap (by omega) (by omega)]
      obtain ⟨id, hid⟩ : ∃ z, 1 + (i : Int) * (1 + gap % 3) = z := ⟨_, rfl⟩
      have q4 : IntKind.i64.wrap (1 + (i : Int) * (1 + gap % 3)) = id := by rw [i64_wrap (by omega) (by omega), hid]
      obtain ⟨row, hrow⟩ : ∃ r, rows.getD i [] = r := ⟨_, rfl⟩
      have hr3 := hx3 _ (getD_mem [] hlt)
      rw [hrow] at hr3
      have hmp : ((List.range (i + 1)).map fun j => rowS gap n j (rows.getD j [])) = ((List.range i).map fun j => rowS gap n j (rows.getD j [])) ++ [rowS gap n i row] := by rw [List.range_succ, List.map_append, ← hrow]; rfl
      have hsl : ((List.range i).map fun j => rowS gap n j (rows.getD j [])).length = i := by simp
      have hrw : rowS gap n i row = (id, (List.range n).map fun k => codeV (row.getD k 0)) := by unfold rowS; rw [hid]
      generalize ((List.range i).map fun j => rowS gap n j (rows.getD j [])) = Li at *
      have ba : (i + 1) * 32 ≤ 140737488355328 := by omega
      rcases hB with ⟨hi0, rfl⟩ | ⟨hi0, g, u1, u2, u3, u4, u5, u6, rfl⟩
      · repeat' first | (refine SW.seq_k fun K hK => ?_) | (refine SW.block ?_) | ((first | refine SW.region ?_ | refine SW.cond ?_ | refine SW.skip ?_ | (refine allF_i fun b hb => ?_; replace hD := And.intro hb hD; clear hb; try simp only [fresh_cons, fresh_nil, and_true, ne_eq, neF] at hD)); try simp only [go_sem, hD, hli, ie, i0, w1, hg3, q1, q2, q3, q4]) | (apply hK; clear hK K)
        obtain ⟨vb, rfl⟩ : ∃ x, x = b := ⟨_, rfl⟩
        obtain ⟨R, hR⟩ : ∃ R : Heap, R = [(tb, .svs [Str ⟨#[114]⟩, .fl n 1 (sF (nm8.take n)), .sc (.slice none 0 0)]), (rb, .svs [Str ⟨#[]⟩, .sc (.slice none 0 0), .sc (.slice none 0 0)])] := ⟨_, rfl⟩
        rw [← hR]
        have v1 : ¬ vb = xb := by simp [hD]
        have v2 : ¬ xb = vb := by simp [hD]
        have v3 : fresh R vb := by rw [hR]; simp [fresh_cons, fresh_nil, hD]
        have v4 : fresh R xb := by rw [hR]; simp [fresh_cons, fresh_nil, d2, d4, hrx, hxr]
        clear hD
        have hD := And.intro (eq_false v1) (eq_false v2)
        obtain ⟨J, hJ⟩ : ∃ J : Nat → St → Prop, ∀ m S, J m S ↔ (∃ (k : Nat) (h : Heap), m = n - k ∧ k ≤ n ∧ ((k = 0 ∧ h = (vb, .svs [I64 id, .sc (.slice none 0 0)]) :: (xb, .svs (RCC ⟨at', gap, rows⟩)) :: R) ∨ (0 < k ∧ ∃ g2, ¬ g2 = vb ∧ ¬ vb = g2 ∧ ¬ g2 = xb ∧ ¬ xb = g2 ∧ fresh R g2 ∧ h = (g2, .svs (vCs ((List.range k).map fun k => codeV (row.getD k 0)))) :: (vb, .svs [I64 id, .os g2 0 k 3]) :: (xb, .svs (RCC ⟨at', gap, rows⟩)) :: R)) ∧ S = ⟨[(1, I64 n), (2, .op xb 0), (4, .op rb 0), (5, .op tb 0), (6, I64 i), (7, .op vb 0), (8, I64 k)], h⟩) := ⟨fun m S => _, fun _ _ => Iff.rfl⟩
        refine SW.loop' J n ((hJ _ _).2 ⟨0, _, rfl, Nat.zero_le _, .inl ⟨rfl, rfl⟩, rfl⟩) (by repeat' (first | exact rfl | exact trivial | constructor)) ?_
        intro m S hIn
        obtain ⟨k, h, rfl, hk, hV, rfl⟩ := (hJ _ _).1 hIn
        clear hIn
        have ke : ((k : Nat) : Int).toNat = k := Int.toNat_natCast _
        have k0 : (0 : Int) ≤ ((k : Nat) : Int) := by omega
        by_cases hkn : k < n
        · have hkni : ((k : Nat) : Int) < ((n : Nat) : Int) := by omega
          have wk : IntKind.i64.wrap ((k : Int) + 1) = ((k + 1 : Nat) : Int) := by rw [i64_wrap (by omega) (by omega)]; omega
          have hvp : ((List.range (k + 1)).map fun k => codeV (row.getD k 0)) = ((List.range k).map fun k => codeV (row.getD k 0)) ++ [codeV (row.getD k 0)] := by rw [List.range_succ, List.map_append]; rfl
          have hvl : ((List.range k).map fun k => codeV (row.getD k 0)).length = k := by simp
          have bk : (k + 1) * 32 ≤ 140737488355328 := by omega
          by_cases hkr : k < row.length
          · have hkri : ((k : Nat) : Int) < ((row.length : Nat) : Int) := by omega
            have hc3 := hr3 _ (getD_mem 0 hkr)
            have cr := code_r (row.getD k 0) hc3.1 hc3.2
            generalize codeV (row.getD k 0) = cv at *
            obtain ⟨ck, cn, ct⟩ := cv
            rcases hV with ⟨hk0, rfl⟩ | ⟨hk0, g2, f1, f2, f3, f4, f5, rfl⟩
            · subst hk0
              repeat' first | (with_reducible refine And.intro (by omega) ?_) | (refine SW.seq_k fun K hK => ?_) | (refine SW.block ?_) | ((first | refine SW.region ?_ | refine SW.regionZ (id := 12) (Checked.mixed Tryz.checked) Go.Ab.zJ2_1 (by kernel_rfl) ?_ | refine SW.cond ?_ | refine SW.skip ?_ | refine ⟨_, cr, ?_⟩ | (refine allF_i fun b hb => ?_; replace hD := And.intro hb hD; clear hb; try simp only [fresh_cons, fresh_nil, and_true, ne_eq, neF] at hD) | simp only [appK, appOsK]); try simp only [Go.Ab.zJ2_1, go_sem, hD, hli, ie, i0, hkni, ke, k0, wk, hrow, hkri, bk, true_implies]) | (refine And.intro (by omega) ?_) | (refine ifI (fun hc => ?_) (fun hc => ?_) <;> first | (exfalso; omega) | skip) | (apply hK; clear hK K)
              obtain ⟨nb, rfl⟩ : ∃ x, x = b := ⟨_, rfl⟩
              refine Rnd.le (St.le_del (b := b)) ?_
              simp only [go_sem, hD]
              refine Rnd.sub (n - (0 + 1)) (by omega) ((hJ _ _).2 ⟨0 + 1, _, rfl, by omega, .inr ⟨by omega, nb, by simp [hD], by simp [hD], by simp [hD], by simp [hD], by simp [hD], by rw [hvp]; rfl⟩, rfl⟩) (by repeat' (first | exact rfl | exact trivial | constructor))
            · have hD := And.intro (And.intro (eq_false f1) (eq_false f2)) (And.intro (And.intro (eq_false f3) (eq_false f4)) hD)
              have hvc : (vCs ((List.range k).map fun k => codeV (row.getD k 0))).length = k * 3 := by rw [← vCs_len, hvl]
              repeat' first | (with_reducible refine And.intro (by omega) ?_) | (refine SW.seq_k fun K hK => ?_) | (refine SW.block ?_) | ((first | refine SW.region ?_ | refine SW.regionZ (id := 12) (Checked.mixed Tryz.checked) Go.Ab.zJ2_1 (by kernel_rfl) ?_ | refine SW.cond ?_ | refine SW.skip ?_ | refine ⟨_, cr, ?_⟩ | (refine allF_i fun b hb => ?_; replace hD := And.intro hb hD; clear hb; try simp only [fresh_cons, fresh_nil, and_true, ne_eq, neF] at hD) | simp only [appK, appOsK]); try simp only [Go.Ab.zJ2_1, go_sem, hD, hli, ie, i0, hkni, ke, k0, wk, hrow, hkri, bk, hvc, true_implies]) | (apply hK; clear hK K)
              obtain ⟨nb, rfl⟩ : ∃ x, x = b := ⟨_, rfl⟩
              refine Rnd.le (St.le_del (b := b)) ?_
              simp only [go_sem, hD]
              refine Rnd.sub (n - (k + 1)) (by omega) ((hJ _ _).2 ⟨k + 1, _, rfl, by omega, .inr ⟨by omega, nb, by simp [hD], by simp [hD], by simp [hD], by simp [hD], by simp [hD], by rw [hvp, ← vCs_snoc]⟩, rfl⟩) (by repeat' (first | exact rfl | exact trivial | constructor))
          · have hkri : ¬ ((k : Nat) : Int) < ((row.length : Nat) : Int) := by omega
            have hz : row.getD k 0 = 0 := by rw [List.getD_eq_getElem?_getD, List.getElem?_eq_none (by omega)]; rfl
            have cr := code_r 0 (by omega) (by omega)
            rw [hz] at hvp
            generalize codeV 0 = cv at *
            obtain ⟨ck, cn, ct⟩ := cv
            rcases hV with ⟨hk0, rfl⟩ | ⟨hk0, g2, f1, f2, f3, f4, f5, rfl⟩
            · subst hk0
              repeat' first | (with_reducible refine And.intro (by omega) ?_) | (refine SW.seq_k fun K hK => ?_) | (refine SW.block ?_) | ((first | refine SW.region ?_ | refine SW.regionZ (id := 12) (Checked.mixed Tryz.checked) Go.Ab.zJ2_1 (by kernel_rfl) ?_ | refine SW.cond ?_ | refine SW.skip ?_ | refine ⟨_, cr, ?_⟩ | (refine allF_i fun b hb => ?_; replace hD := And.intro hb hD; clear hb; try simp only [fresh_cons, fresh_nil, and_true, ne_eq, neF] at hD) | simp only [appK, appOsK]); try simp only [Go.Ab.zJ2_1, go_sem, hD, hli, ie, i0, hkni, ke, k0, wk, hrow, hkri, bk, true_implies]) | (refine And.intro (by omega) ?_) | (refine ifI (fun hc => ?_) (fun hc => ?_) <;> first | (exfalso; omega) | skip) | (apply hK; clear hK K)
              obtain ⟨nb, rfl⟩ : ∃ x, x = b := ⟨_, rfl⟩
              refine Rnd.le (St.le_del (b := b)) ?_
              simp only [go_sem, hD]
              refine Rnd.sub (n - (0 + 1)) (by omega) ((hJ _ _).2 ⟨0 + 1, _, rfl, by omega, .inr ⟨by omega, nb, by simp [hD], by simp [hD], by simp [hD], by simp [hD], by simp [hD], by rw [hvp]; rfl⟩, rfl⟩) (by repeat' (first | exact rfl | exact trivial | constructor))
            · have hD := And.intro (And.intro (eq_false f1) (eq_false f2)) (And.intro (And.intro (eq_false f3) (eq_false f4)) hD)
              have hvc : (vCs ((List.range k).map fun k => codeV (row.getD k 0))).length = k * 3 := by rw [← vCs_len, hvl]
              repeat' first | (with_reducible refine And.intro (by omega) ?_) | (refine SW.seq_k fun K hK => ?_) | (refine SW.block ?_) | ((first | refine SW.region ?_ | refine SW.regionZ (id := 12) (Checked.mixed Tryz.checked) Go.Ab.zJ2_1 (by kernel_rfl) ?_ | refine SW.cond ?_ | refine SW.skip ?_ | refine ⟨_, cr, ?_⟩ | (refine allF_i fun b hb => ?_; replace hD := And.intro hb hD; clear hb; try simp only [fresh_cons, fresh_nil, and_true, ne_eq, neF] at hD) | simp only [appK, appOsK]); try simp only [Go.Ab.zJ2_1, go_sem, hD, hli, ie, i0, hkni, ke, k0, wk, hrow, hkri, bk, hvc, true_implies]) | (apply hK; clear hK K)
              obtain ⟨nb, rfl⟩ : ∃ x, x = b := ⟨_, rfl⟩
              refine Rnd.le (St.le_del (b := b)) ?_
              simp only [go_sem, hD]
              refine Rnd.sub (n - (k + 1)) (by omega) ((hJ _ _).2 ⟨k + 1, _, rfl, by omega, .inr ⟨by omega, nb, by simp [hD], by simp [hD], by simp [hD], by simp [hD], by simp [hD], by rw [hvp, ← vCs_snoc]⟩, rfl⟩) (by repeat' (first | exact rfl | exact trivial | constructor))
        have hkni : ¬ ((k : Nat) : Int) < ((n : Nat) : Int) := by omega
        obtain rfl : k = n := by omega
        have hVl : ((List.range k).map fun k => codeV (row.getD k 0)).length = k := by simp
        have hwl := hrw
        generalize ((List.range k).map fun k => codeV (row.getD k 0)) = V at *
        apply Ab.SW.le (S' := ⟨[(1, I64 k), (2, .op xb 0), (4, .op rb 0), (5, .op tb 0), (6, I64 i), (7, .op vb 0), (8, I64 k)], (vb, .svs [I64 id, VL V]) :: (xb, .svs (RCC ⟨at', gap, rows⟩)) :: R⟩)
        · rcases hV with ⟨hk0, rfl⟩ | ⟨hk0, g2, f1, f2, f3, f4, f5, rfl⟩
          · subst hk0
            have hVn : V = [] := List.eq_nil_of_length_eq_zero hVl
            subst hVn
            have := St.le_nilC (t := [(1, I64 (0 : Nat)), (2, .op xb 0), (4, .op rb 0), (5, .op tb 0), (6, I64 i), (7, .op vb 0), (8, I64 (0 : Nat))]) (h := (vb, .svs [I64 id, .sc (.slice none 0 0)]) :: (xb, .svs (RCC ⟨at', gap, rows⟩)) :: R) (c := vb) (j := 1) (sz := 3) (f := vF []) (by rw [find_cons, if_pos rfl]) (by show 1 < 2; omega) rfl
            rw [upd_cons, if_pos rfl] at this
            exact this
          · have := St.le_accC (t := [(1, I64 k), (2, .op xb 0), (4, .op rb 0), (5, .op tb 0), (6, I64 i), (7, .op vb 0), (8, I64 k)]) (sz := 3) (n := k) (c := vb) (j := 1) (Acc.osH (b := g2) (cs := vCs V) (h0 := (vb, .svs [I64 id, .os g2 0 k 3]) :: (xb, .svs (RCC ⟨at', gap, rows⟩)) :: R) (by simp only [fresh_cons, ne_eq]; exact ⟨⟨f2, f1⟩, ⟨f4, f3⟩, f5⟩) (by rw [← vCs_len, hVl])) (by rw [find_cons, if_pos rfl]) (by show 1 < 2; omega) rfl (vF V) (fun j hj => vCs_at V j (by omega))
            rw [upd_cons, if_pos rfl] at this
            unfold VL
            rw [hVl]
            exact this
        subst hR
        simp only [fresh_cons, fresh_nil, and_true, ne_eq, neF] at v3 v4
        have hD := And.intro v3 (And.intro v4 (And.intro (And.intro (eq_false v1) (eq_false v2)) (And.intro (And.intro (eq_false d1) (eq_false d3)) (And.intro (eq_false hrx) (eq_false hxr)))))
        subst hi0
        have hLn : Li = [] := List.eq_nil_of_length_eq_zero hsl
        subst hLn
        repeat' first | (with_reducible refine And.intro (by omega) ?_) | (refine SW.seq_k fun K hK => ?_) | ((first | refine SW.region ?_ | refine SW.cond ?_ | refine SW.exit ?_ | (refine allF_i fun b hb => ?_; replace hD := And.intro hb hD; clear hb; try simp only [fresh_cons, fresh_nil, and_true, ne_eq, neF] at hD) | simp only [appK, appOsK]); try simp only [go_sem, hD, hkni, w1, ba, true_implies]) | (refine And.intro (by omega) ?_) | (apply hK; clear hK K) | (clear hK K; apply hK; clear hK K)
        refine Rnd.le (St.le_pick _ ?_ ?_) (Rnd.sub (rows.length - (0 + 1)) (by omega) ((hI _ _).2 ⟨0 + 1, [(xb, .svs (RCC ⟨at', gap, rows⟩)), (b, .svs (rC (id, V))), (tb, .svs [Str ⟨#[114]⟩, .fl k 1 (sF (nm8.take k)), .os b 0 1 2]), (rb, .svs [Str ⟨#[]⟩, .sc (.slice none 0 0), .sc (.slice none 0 0)])], rfl, by omega, .inr ⟨by omega, b, by simp [hD], by simp [hD], by simp [hD], by simp [hD], by simp [hD], by simp [hD], by rw [hmp, hrw]; rfl⟩, rfl⟩) (by repeat' (first | exact rfl | exact trivial | constructor)))
        · repeat' (first | exact (fun x hx => (List.not_mem_nil hx).elim) | refine List.forall_mem_cons.2 ⟨?_, ?_⟩ | exact List.mem_cons_self | apply List.mem_cons_of_mem)
        · simp [fresh_cons, fresh_nil, hD]
      · have hD := And.intro (And.intro (eq_false u1) (eq_false u2)) (And.intro (And.intro (eq_false u3) (eq_false u4)) (And.intro (And.intro (eq_false u5) (eq_false u6)) hD))
        repeat' first | (refine SW.seq_k fun K hK => ?_) | (refine SW.block ?_) | ((first | refine SW.region ?_ | refine SW.cond ?_ | refine SW.skip ?_ | (refine allF_i fun b hb => ?_; replace hD := And.intro hb hD; clear hb; try simp only [fresh_cons, fresh_nil, and_true, ne_eq, neF] at hD)); try simp only [go_sem, hD, hli, ie, i0, w1, hg3, q1, q2, q3, q4]) | (apply hK; clear hK K)
        obtain ⟨vb, rfl⟩ : ∃ x, x = b := ⟨_, rfl⟩
        obtain ⟨R, hR⟩ : ∃ R : Heap, R = [(g, .svs (fC rC Li)), (tb, .svs [Str ⟨#[114]⟩, .fl n 1 (sF (nm8.take n)), .os g 0 i 2]), (rb, .svs [Str ⟨#[]⟩, .sc (.slice none 0 0), .sc (.slice none 0 0)])] := ⟨_, rfl⟩
        rw [← hR]
        have v1 : ¬ vb = xb := by simp [hD]
        have v2 : ¬ xb = vb := by simp [hD]
        have v3 : fresh R vb := by rw [hR]; simp [fresh_cons, fresh_nil, hD]
        have v4 : fresh R xb := by rw [hR]; simp [fresh_cons, fresh_nil, d2, d4, hrx, hxr, u1, u2]
        clear hD
        have hD := And.intro (eq_false v1) (eq_false v2)
        obtain ⟨J, hJ⟩ : ∃ J : Nat → St → Prop, ∀ m S, J m S ↔ (∃ (k : Nat) (h : Heap), m = n - k ∧ k ≤ n ∧ ((k = 0 ∧ h = (vb, .svs [I64 id, .sc (.slice none 0 0)]) :: (xb, .svs (RCC ⟨at', gap, rows⟩)) :: R) ∨ (0 < k ∧ ∃ g2, ¬ g2 = vb ∧ ¬ vb = g2 ∧ ¬ g2 = xb ∧ ¬ xb = g2 ∧ fresh R g2 ∧ h = (g2, .svs (vCs ((List.range k).map fun k => codeV (row.getD k 0)))) :: (vb, .svs [I64 id, .os g2 0 k 3]) :: (xb, .svs (RCC ⟨at', gap, rows⟩)) :: R)) ∧ S = ⟨[(1, I64 n), (2, .op xb 0), (4, .op rb 0), (5, .op tb 0), (6, I64 i), (7, .op vb 0), (8, I64 k)], h⟩) := ⟨fun m S => _, fun _ _ => Iff.rfl⟩
        refine SW.loop' J n ((hJ _ _).2 ⟨0, _, rfl, Nat.zero_le _, .inl ⟨rfl, rfl⟩, rfl⟩) (by repeat' (first | exact rfl | exact trivial | constructor)) ?_
        intro m S hIn
        obtain ⟨k, h, rfl, hk, hV, rfl⟩ := (hJ _ _).1 hIn
        clear hIn
        have ke : ((k : Nat) : Int).toNat = k := Int.toNat_natCast _
        have k0 : (0 : Int) ≤ ((k : Nat) : Int) := by omega
        by_cases hkn : k < n
        · have hkni : ((k : Nat) : Int) < ((n : Nat) : Int) := by omega
          have wk : IntKind.i64.wrap ((k : Int) + 1) = ((k + 1 : Nat) : Int) := by rw [i64_wrap (by omega) (by omega)]; omega
          have hvp : ((List.range (k + 1)).map fun k => codeV (row.getD k 0)) = ((List.range k).map fun k => codeV (row.getD k 0)) ++ [codeV (row.getD k 0)] := by rw [List.range_succ, List.map_append]; rfl
          have hvl : ((List.range k).map fun k => codeV (row.getD k 0)).length = k := by simp
          have bk : (k + 1) * 32 ≤ 140737488355328 := by omega
          by_cases hkr : k < row.length
          · have hkri : ((k : Nat) : Int) < ((row.length : Nat) : Int) := by omega
            have hc3 := hr3 _ (getD_mem 0 hkr)
            have cr := code_r (row.getD k 0) hc3.1 hc3.2
            generalize codeV (row.getD k 0) = cv at *
            obtain ⟨ck, cn, ct⟩ := cv
            rcases hV with ⟨hk0, rfl⟩ | ⟨hk0, g2, f1, f2, f3, f4, f5, rfl⟩
            · subst hk0
              repeat' first | (with_reducible refine And.intro (by omega) ?_) | (refine SW.seq_k fun K hK => ?_) | (refine SW.block ?_) | ((first | refine SW.region ?_ | refine SW.regionZ (id := 12) (Checked.mixed Tryz.checked) Go.Ab.zJ2_1 (by kernel_rfl) ?_ | refine SW.cond ?_ | refine SW.skip ?_ | refine ⟨_, cr, ?_⟩ | (refine allF_i fun b hb => ?_; replace hD := And.intro hb hD; clear hb; try simp only [fresh_cons, fresh_nil, and_true, ne_eq, neF] at hD) | simp only [appK, appOsK]); try simp only [Go.Ab.zJ2_1, go_sem, hD, hli, ie, i0, hkni, ke, k0, wk, hrow, hkri, bk, true_implies]) | (refine And.intro (by omega) ?_) | (refine ifI (fun hc => ?_) (fun hc => ?_) <;> first | (exfalso; omega) | skip) | (apply hK; clear hK K)
              obtain ⟨nb, rfl⟩ : ∃ x, x = b := ⟨_, rfl⟩
              refine Rnd.le (St.le_del (b := b)) ?_
              simp only [go_sem, hD]
              refine Rnd.sub (n - (0 + 1)) (by omega) ((hJ _ _).2 ⟨0 + 1, _, rfl, by omega, .inr ⟨by omega, nb, by simp [hD], by simp [hD], by simp [hD], by simp [hD], by simp [hD], by rw [hvp]; rfl⟩, rfl⟩) (by repeat' (first | exact rfl | exact trivial | constructor))
            · have hD := And.intro (And.intro (eq_false f1) (eq_false f2)) (And.intro (And.intro (eq_false f3) (eq_false f4)) hD)
              have hvc : (vCs ((List.range k).map fun k => codeV (row.getD k 0))).length = k * 3 := by rw [← vCs_len, hvl]
              repeat' first | (with_reducible refine And.intro (by omega) ?_) | (refine SW.seq_k fun K hK => ?_) | (refine SW.block ?_) | ((first | refine SW.region ?_ | refine SW.regionZ (id := 12) (Checked.mixed Tryz.checked) Go.Ab.zJ2_1 (by kernel_rfl) ?_ | refine SW.cond ?_ | refine SW.skip ?_ | refine ⟨_, cr, ?_⟩ | (refine allF_i fun b hb => ?_; replace hD := And.intro hb hD; clear hb; try simp only [fresh_cons, fresh_nil, and_true, ne_eq, neF] at hD) | simp only [appK, appOsK]); try simp only [Go.Ab.zJ2_1, go_sem, hD, hli, ie, i0, hkni, ke, k0, wk, hrow, hkri, bk, hvc, true_implies]) | (apply hK; clear hK K)
              obtain ⟨nb, rfl⟩ : ∃ x, x = b := ⟨_, rfl⟩
              refine Rnd.le (St.le_del (b := b)) ?_
              simp only [go_sem, hD]
              refine Rnd.sub (n - (k + 1)) (by omega) ((hJ _ _).2 ⟨k + 1, _, rfl, by omega, .inr ⟨by omega, nb, by simp [hD], by simp [hD], by simp [hD], by simp [hD], by simp [hD], by rw [hvp, ← vCs_snoc]⟩, rfl⟩) (by repeat' (first | exact rfl | exact trivial | constructor))
          · have hkri : ¬ ((k : Nat) : Int) < ((row.length : Nat) : Int) := by omega
            have hz : row.getD k 0 = 0 := by rw [List.getD_eq_getElem?_getD, List.getElem?_eq_none (by omega)]; rfl
            have cr := code_r 0 (by omega) (by omega)
            rw [hz] at hvp
            generalize codeV 0 = cv at *
            obtain ⟨ck, cn, ct⟩ := cv
            rcases hV with ⟨hk0, rfl⟩ | ⟨hk0, g2, f1, f2, f3, f4, f5, rfl⟩
            · subst hk0
              repeat' first | (with_reducible refine And.intro (by omega) ?_) | (refine SW.seq_k fun K hK => ?_) | (refine SW.block ?_) | ((first | refine SW.region ?_ | refine SW.regionZ (id := 12) (Checked.mixed Tryz.checked) Go.Ab.zJ2_1 (by kernel_rfl) ?_ | refine SW.cond ?_ | refine SW.skip ?_ | refine ⟨_, cr, ?_⟩ | (refine allF_i fun b hb => ?_; replace hD := And.intro hb hD; clear hb; try simp only [fresh_cons, fresh_nil, and_true, ne_eq, neF] at hD) | simp only [appK, appOsK]); try simp only [Go.Ab.zJ2_1, go_sem, hD, hli, ie, i0, hkni, ke, k0, wk, hrow, hkri, bk, true_implies]) | (refine And.intro (by omega) ?_) | (refine ifI (fun hc => ?_) (fun hc => ?_) <;> first | (exfalso; omega) | skip) | (apply hK; clear hK K)
              obtain ⟨nb, rfl⟩ : ∃ x, x = b := ⟨_, rfl⟩
              refine Rnd.le (St.le_del (b := b)) ?_
              simp only [go_sem, hD]
              refine Rnd.sub (n - (0 + 1)) (by omega) ((hJ _ _).2 ⟨0 + 1, _, rfl, by omega, .inr ⟨by omega, nb, by simp [hD], by simp [hD], by simp [hD], by simp [hD], by simp [hD], by rw [hvp]; rfl⟩, rfl⟩) (by repeat' (first | exact rfl | exact trivial | constructor))
            · have hD := And.intro (And.intro (eq_false f1) (eq_false f2)) (And.intro (And.intro (eq_false f3) (eq_false f4)) hD)
              have hvc : (vCs ((List.range k).map fun k => codeV (row.getD k 0))).length = k * 3 := by rw [← vCs_len, hvl]
              repeat' first | (with_reducible refine And.intro (by omega) ?_) | (refine SW.seq_k fun K hK => ?_) | (refine SW.block ?_) | ((first | refine SW.region ?_ | refine SW.regionZ (id := 12) (Checked.mixed Tryz.checked) Go.Ab.zJ2_1 (by kernel_rfl) ?_ | refine SW.cond ?_ | refine SW.skip ?_ | refine ⟨_, cr, ?_⟩ | (refine allF_i fun b hb => ?_; replace hD := And.intro hb hD; clear hb; try simp only [fresh_cons, fresh_nil, and_true, ne_eq, neF] at hD) | simp only [appK, appOsK]); try simp only [Go.Ab.zJ2_1, go_sem, hD, hli, ie, i0, hkni, ke, k0, wk, hrow, hkri, bk, hvc, true_implies]) | (apply hK; clear hK K)
              obtain ⟨nb, rfl⟩ : ∃ x, x = b := ⟨_, rfl⟩
              refine Rnd.le (St.le_del (b := b)) ?_
              simp only [go_sem, hD]
              refine Rnd.sub (n - (k + 1)) (by omega) ((hJ _ _).2 ⟨k + 1, _, rfl, by omega, .inr ⟨by omega, nb, by simp [hD], by simp [hD], by simp [hD], by simp [hD], by simp [hD], by rw [hvp, ← vCs_snoc]⟩, rfl⟩) (by repeat' (first | exact rfl | exact trivial | constructor))
        have hkni : ¬ ((k : Nat) : Int) < ((n : Nat) : Int) := by omega
        obtain rfl : k = n := by omega
        have hVl : ((List.range k).map fun k => codeV (row.getD k 0)).length = k := by simp
        have hwl := hrw
        generalize ((List.range k).map fun k => codeV (row.getD k 0)) = V at *
        apply Ab.SW.le (S' := ⟨[(1, I64 k), (2, .op xb 0), (4, .op rb 0), (5, .op tb 0), (6, I64 i), (7, .op vb 0), (8, I64 k)], (vb, .svs [I64 id, VL V]) :: (xb, .svs (RCC ⟨at', gap, rows⟩)) :: R⟩)
        · rcases hV with ⟨hk0, rfl⟩ | ⟨hk0, g2, f1, f2, f3, f4, f5, rfl⟩
          · subst hk0
            have hVn : V = [] := List.eq_nil_of_length_eq_zero hVl
            subst hVn
            have := St.le_nilC (t := [(1, I64 (0 : Nat)), (2, .op xb 0), (4, .op rb 0), (5, .op tb 0), (6, I64 i), (7, .op vb 0), (8, I64 (0 : Nat))]) (h := (vb, .svs [I64 id, .sc (.slice none 0 0)]) :: (xb, .svs (RCC ⟨at', gap, rows⟩)) :: R) (c := vb) (j := 1) (sz := 3) (f := vF []) (by rw [find_cons, if_pos rfl]) (by show 1 < 2; omega) rfl
            rw [upd_cons, if_pos rfl] at this
            exact this
          · have := St.le_accC (t := [(1, I64 k), (2, .op xb 0), (4, .op rb 0), (5, .op tb 0), (6, I64 i), (7, .op vb 0), (8, I64 k)]) (sz := 3) (n := k) (c := vb) (j := 1) (Acc.osH (b := g2) (cs := vCs V) (h0 := (vb, .svs [I64 id, .os g2 0 k 3]) :: (xb, .svs (RCC ⟨at', gap, rows⟩)) :: R) (by simp only [fresh_cons, ne_eq]; exact ⟨⟨f2, f1⟩, ⟨f4, f3⟩, f5⟩) (by rw [← vCs_len, hVl])) (by rw [find_cons, if_pos rfl]) (by show 1 < 2; omega) rfl (vF V) (fun j hj => vCs_at V j (by omega))
            rw [upd_cons, if_pos rfl] at this
            unfold VL
            rw [hVl]
            exact this
        subst hR
        simp only [fresh_cons, fresh_nil, and_true, ne_eq, neF] at v3 v4
        have hD := And.intro v3 (And.intro v4 (And.intro (And.intro (eq_false v1) (eq_false v2)) (And.intro (And.intro (eq_false d1) (eq_false d3)) (And.intro (eq_false hrx) (And.intro (eq_false hxr) (And.intro (And.intro (eq_false u3) (eq_false u4)) (And.intro (eq_false u5) (eq_false u6))))))))
        have hfc : (fC rC Li).length = i * 2 := by rw [← fC_len (k := 2) (fun _ => rfl), hsl]
        repeat' first | (with_reducible refine And.intro (by omega) ?_) | (refine SW.seq_k fun K hK => ?_) | ((first | refine SW.region ?_ | refine SW.cond ?_ | refine SW.exit ?_ | (refine allF_i fun b hb => ?_; replace hD := And.intro hb hD; clear hb; try simp only [fresh_cons, fresh_nil, and_true, ne_eq, neF] at hD) | simp only [appK, appOsK]); try simp only [go_sem, hD, hkni, w1, ba, hfc, true_implies]) | (apply hK; clear hK K) | (clear hK K; apply hK; clear hK K)
        refine Rnd.le (St.le_pick _ ?_ ?_) (Rnd.sub (rows.length - (i + 1)) (by omega) ((hI _ _).2 ⟨i + 1, [(xb, .svs (RCC ⟨at', gap, rows⟩)), (b, .svs (fC rC Li ++ rC (id, V))), (tb, .svs [Str ⟨#[114]⟩, .fl k 1 (sF (nm8.take k)), .os b 0 (i + 1) 2]), (rb, .svs [Str ⟨#[]⟩, .sc (.slice none 0 0), .sc (.slice none 0 0)])], rfl, by omega, .inr ⟨by omega, b, by simp [hD], by simp [hD], by simp [hD], by simp [hD], by simp [hD], by simp [hD], by rw [hmp, hrw, ← fC_snoc]⟩, rfl⟩) (by repeat' (first | exact rfl | exact trivial | constructor)))
        · repeat' (first | exact (fun x hx => (List.not_mem_nil hx).elim) | refine List.forall_mem_cons.2 ⟨?_, ?_⟩ | exact List.mem_cons_self | apply List.mem_cons_of_mem)
        · simp [fresh_cons, fresh_nil, hD]
    · have hli : ¬ ((i : Nat) : Int) < (((rows.length) : Nat) : Int) := by omega
      obtain rfl : i = rows.length := by omega
      have hsl : ((List.range rows.length).map fun j => rowS gap n j (rows.getD j [])).length = rows.length := by simp
      have hnl : (nm8.take n).length = n := by rw [List.length_take]; show min n 8 = n; omega
      generalize ((List.range rows.length).map fun j => rowS gap n j (rows.getD j [])) = Li at *
      apply Ab.SW.le (S' := ⟨[(1, I64 n), (2, .op xb 0), (4, .op rb 0), (5, .op tb 0), (6, I64 rows.length)], [(xb, .svs (RCC ⟨at', gap, rows⟩)), (tb, .svs [Str ⟨#[114]⟩, .fl n 1 (sF (nm8.take n)), RL Li]), (rb, .svs [Str ⟨#[]⟩, .sc (.slice none 0 0), .sc (.slice none 0 0)])]⟩)
      · rcases hB with ⟨hi0, rfl⟩ | ⟨hi0, g, u1, u2, u3, u4, u5, u6, rfl⟩
        · have hLn : Li = [] := List.eq_nil_of_length_eq_zero (by omega)
          subst hLn
          have := St.le_nilC (t := [(1, I64 n), (2, .op xb 0), (4, .op rb 0), (5, .op tb 0), (6, I64 rows.length)]) (h := [(xb, .svs (RCC ⟨at', gap, rows⟩)), (tb, .svs [Str ⟨#[114]⟩, .fl n 1 (sF (nm8.take n)), .sc (.slice none 0 0)]), (rb, .svs [Str ⟨#[]⟩, .sc (.slice none 0 0), .sc (.slice none 0 0)])]) (c := tb) (j := 2) (sz := 2) (f := rF []) (by rw [find_cons, if_neg d4, find_cons, if_pos rfl]) (by show 2 < 3; omega) rfl
          rw [upd_cons, if_neg d4, upd_cons, if_pos rfl] at this
          exact this
        · have h1 := St.le_perm (t := [(1, I64 n), (2, .op xb 0), (4, .op rb 0), (5, .op tb 0), (6, I64 rows.length)]) (List.Perm.swap (xb, .svs (RCC ⟨at', gap, rows⟩)) (g, Blk.svs (fC rC Li)) [(tb, .svs [Str ⟨#[114]⟩, .fl n 1 (sF (nm8.take n)), .os g 0 rows.length 2]), (rb, .svs [Str ⟨#[]⟩, .sc (.slice none 0 0), .sc (.slice none 0 0)])])
          have := St.le_accC (t := [(1, I64 n), (2, .op xb 0), (4, .op rb 0), (5, .op tb 0), (6, I64 rows.length)]) (sz := 2) (n := rows.length) (c := tb) (j := 2) (Acc.osH (b := g) (cs := fC rC Li) (h0 := [(xb, .svs (RCC ⟨at', gap, rows⟩)), (tb, .svs [Str ⟨#[114]⟩, .fl n 1 (sF (nm8.take n)), .os g 0 rows.length 2]), (rb, .svs [Str ⟨#[]⟩, .sc (.slice none 0 0), .sc (.slice none 0 0)])]) (by simp [fresh_cons, fresh_nil, u1, u2, u3, u4, u5, u6]) (by rw [← fC_len (k := 2) (fun _ => rfl), hsl])) (by rw [find_cons, if_neg d4, find_cons, if_pos rfl]) (by show 2 < 3; omega) rfl (rF Li) (fun j hj => fC_at (enc := rC) (k := 2) (fun _ => rfl) r0 Li j (by omega))
          rw [upd_cons, if_neg d4, upd_cons, if_pos rfl] at this
          unfold RL
          rw [hsl]
          exact h1.trans this
      · repeat' first | (refine SW.seq_k fun K hK => ?_) | ((first | refine SW.region ?_ | refine SW.cond ?_ | refine SW.exit ?_ | refine SW.ret ?_); try simp only [go_sem, hD, hli, true_implies]) | (apply hK; clear hK K) | (clear hK K; apply hK; clear hK K)
        apply ret_cell (i := 4) (n := 3); exact rfl; (simp only [go_sem, hD]; try rfl); (first | exact Nat.le_refl _ | decide); simp only [resL_tmp, resL_cellE, resC_ok, resL_nil, tupOf, getN, go_sem, hD]
        unfold TB SL
        simp only
        rw [hnl]
  obtain ⟨C, Q', hK2, key⟩ := key
  clear hK
  have hK := hK2
  clear hK2
  have nn : (((n : Nat) : Int) - 0).toNat = n := by omega
  have hn6 : n = 0 ∨ n = 1 ∨ n = 2 ∨ n = 3 ∨ n = 4 ∨ n = 5 := by omega
  rcases hn6 with h | h | h | h | h | h
  all_goals
    have nn2 := nn.trans h
    repeat' first | (with_reducible refine And.intro (by omega) ?_) | ((first | refine SW.region ?_ | (refine allF_i fun b hb => ?_; replace hD := And.intro hb hD; clear hb; try simp only [fresh_cons, fresh_nil, and_true, ne_eq, neF] at hD) | simp only [appK, appOsK]); try simp only [go_sem, hD, nn2, getN, List.all_cons, List.all_nil, Bool.and_self, Bool.true_and]) | (apply hK; clear hK K)
    obtain ⟨tb, rfl⟩ : ∃ x, x = b := ⟨_, rfl⟩
    obtain ⟨ab, rfl⟩ : ∃ x, x = b := ⟨_, rfl⟩
    have d1 : ¬ tb = rb := by simp [hD]
    have d2 : ¬ tb = xb := by simp [hD]
    have d3 : ¬ rb = tb := by simp [hD]
    have d4 : ¬ xb = tb := by simp [hD]
    have d5 : ¬ tb = ab := by simp [hD]
    apply Ab.SW.le
    · apply St.le_freezeC (c := tb) (j := 1) (b := ab) (off := 0) (sz := 1) (f := sF (nm8.take n))
      · rw [find_cons, if_pos rfl]
      · exact d5
      · show 1 < 3
        omega
      · rfl
      · simp [find_cons, d5, hD]; rfl
      · decide
      · intro p hp
        rw [h]
        have h5 : p = 0 ∨ p = 1 ∨ p = 2 ∨ p = 3 ∨ p = 4 := by omega
        rcases h5 with rfl | rfl | rfl | rfl | rfl
        all_goals first | (exfalso; omega) | rfl
    simp only [go_sem, hD, d5]
    subst h
    refine Ab.SW.le ((St.le_pick [(xb, .svs (RCC ⟨at', gap, rows⟩)), (tb, .svs [Str ⟨#[114]⟩, .fl _ 1 (sF (nm8.take _)), .sc (.slice none 0 0)]), (rb, .svs [Str ⟨#[]⟩, .sc (.slice none 0 0), .sc (.slice none 0 0)])] ?_ ?_).trans (St.le_sub ?_)) (key tb d1 d2 d3 d4)
    · repeat' (first | exact (fun x hx => (List.not_mem_nil hx).elim) | refine List.forall_mem_cons.2 ⟨?_, ?_⟩ | exact List.mem_cons_self | apply List.mem_cons_of_mem)
    · simp [fresh_cons, fresh_nil, hD]
    · repeat' (first | exact rfl | exact trivial | constructor)
end Go.Proofs.YtblfodnajpamfaaGreatDoor
namespace Go.Ab.A15
open Go Go.Ab Go.Ab.A34
def tabS (x : Rc) : Tb := wideS x (x.attrs % 6).toNat
abbrev TZ : SV := .agg [Str ⟨#[]⟩, SN, SN]
def pickF (n : Int) : List Int → List Int → List Int
  | pre, [] => pre
  | pre, x :: l => if atI (x % n) 0 pre < 0 then pickF n (pre ++ [x % n]) l else pickF n pre l
def pickS (l : List Int) (n : Nat) : List Int := if n = 0 then [] else pickF n [] l
def U8s (l : List Int) : Prop := ∀ c ∈ l, 0 ≤ c ∧ c < 256
theorem pickF_drop {n : Int} {pre l : List Int} {i : Nat} (h : i < l.length) : pickF n pre (l.drop i) = if atI (l.getD i 0 % n) 0 pre < 0 then pickF n (pre ++ [l.getD i 0 % n]) (l.drop (i + 1)) else pickF n pre (l.drop (i + 1)) := by
  have g : l.getD i 0 = l[i] := by simp [List.getD_eq_getElem?_getD, h]
  rw [List.drop_eq_getElem_cons h, g]
  rfl
theorem few_nums {l : List Int} {n : Nat} (h : l.Nodup) (hb : ∀ x ∈ l, 0 ≤ x ∧ x < (n : Int)) : l.length ≤ n := by
  have key := nodup_bound n (l.map Int.toNat) ?_ ?_
  · rwa [List.length_map] at key
  · have hp := List.pairwise_iff_getElem.1 h
    refine List.pairwise_iff_getElem.2 fun i j hi hj hij e => ?_
    rw [List.length_map] at hi hj
    rw [List.getElem_map, List.getElem_map] at e
    have h1 := hb _ (List.getElem_mem hi)
    have h2 := hb _ (List.getElem_mem hj)
    exact hp i j hi hj hij (by omega)
  · intro x hx
    obtain ⟨y, hy, rfl⟩ := List.mem_map.1 hx
    have := hb y hy
    omega
theorem pick_add {n : Nat} {pre : List Int} {k : Int} (h : pre.Nodup ∧ ∀ y ∈ pre, 0 ≤ y ∧ y < (n : Int)) (h0 : 0 ≤ k) (h1 : k < n) (hq : atI k 0 pre < 0) : (pre ++ [k]).Nodup ∧ ∀ y ∈ pre ++ [k], 0 ≤ y ∧ y < (n : Int) := by
  have h2 : k ∉ pre := atI_none.1 hq
  refine ⟨?_, fun y hy => ?_⟩
  · rw [List.nodup_append]
    exact ⟨h.1, by simp, fun a ha b hb e => h2 (by rw [List.mem_singleton] at hb; rw [← hb, ← e]; exact ha)⟩
  · rcases List.mem_append.1 hy with h3 | h3
    · exact h.2 y h3
    · rw [List.mem_singleton] at h3
      rw [h3]
      exact ⟨h0, h1⟩
end Go.Ab.A15
namespace Go.Proofs.YtblfodnajpamfaaGreatDoor
open Go Go.Ab Go.Ab.A34 Go.Ab.A15
variable [Gl] [Tabs]
theorem rtab_big (x : Rc) (m : Nat) (h : m < x.rows.length) : PCall Tryz.prog 34 [RC x, I64 m] (.tup [TZ, SB false]) := by
  have hi : ((m : Nat) : Int) < ((x.rows.length : Nat) : Int) := by omega
  obtain ⟨a, g, l⟩ := x
  simp only at hi
  refine Call.enter' (N := 18) (rs := [.cell 4 75, .tmp 5]) Tryz.func34 rfl rfl rfl (by decide) rfl ?_; simp only [argT]; have hD : (0 : Nat) = 0 := rfl
  repeat' first | (refine SW.seq_k fun K hK => ?_) | ((first | refine SW.region ?_ | refine SW.cond ?_ | refine SW.ret ?_ | (refine allF_i fun b hb => ?_; replace hD := And.intro hb hD; clear hb; try simp only [fresh_cons, fresh_nil, and_true, ne_eq, neF] at hD)); try simp only [go_sem, hD, hi]) | (apply hK; clear hK K)
  apply ret_cell (i := 4) (n := 3); exact rfl; (simp only [go_sem, hD]; try rfl); (first | exact Nat.le_refl _ | decide); simp only [resL_tmp, resL_cellE, resC_ok, resL_nil, tupOf, getN, go_sem, hD]
theorem rtab_r (x : Rc) (hx : okRc x) (m : Nat) (h : x.rows.length ≤ m) (hm : m ≤ 1000) : PCall Tryz.prog 34 [RC x, I64 m] (.tup [TB (tabS x), SB true]) := by
  have hi : ¬ ((m : Nat) : Int) < ((x.rows.length : Nat) : Int) := by omega
  have a1 : x.attrs.tmod 6 = x.attrs % 6 := Int.tmod_eq_emod_of_nonneg hx.1.1
  have a2 : IntKind.i64.wrap (x.attrs % 6) = (((x.attrs % 6).toNat : Nat) : Int) := by rw [i64_wrap (by omega) (by omega)]; omega
  have wr := wide_r x hx (x.attrs % 6).toNat (by omega) (by omega)
  unfold tabS
  generalize wideS x (x.attrs % 6).toNat = t at *
  obtain ⟨a, g, l⟩ := x
  simp only at hi a1 a2 wr
  refine Call.enter' (N := 18) (rs := [.cell 4 75, .tmp 5]) Tryz.func34 rfl rfl rfl (by decide) rfl ?_; simp only [argT]; have hD : (0 : Nat) = 0 := rfl
  repeat' first | (refine SW.seq_k fun K hK => ?_) | ((first | refine SW.region ?_ | refine SW.cond ?_ | refine SW.skip ?_ | refine SW.ret ?_ | refine Call.of_pure (wr) ?_ | (refine allF_i fun b hb => ?_; replace hD := And.intro hb hD; clear hb; try simp only [fresh_cons, fresh_nil, and_true, ne_eq, neF] at hD)); try simp only [go_sem, hD, hi, a1, a2]) | (apply hK; clear hK K)
  apply ret_cell (i := 4) (n := 3); exact rfl; (simp only [go_sem, hD]; try rfl); (first | exact Nat.le_refl _ | decide); simp only [resL_tmp, resL_cellE, resC_ok, resL_nil, tupOf, getN, go_sem, hD]
theorem at_o (b : Nat) (h : Heap) (l : List Int) (hl : l.length ≤ 1000000000000) (hH : h.find b = some (.ints .i64 l)) (x : Int) : Ab.Call Tryz.prog 65 [.os b 0 l.length 1, I64 x] h (fun r h' => r = I64 (atI x 0 l) ∧ h' = h) :=
  Call.lend_ints (args := [.os b 0 l.length 1, I64 x]) 0 .i64 l (by simp) rfl rfl hH rfl (at_r x l l.length (by omega) rfl (iF l) (fun j hj => rfl))
theorem pick_r (l : List Int) (hl : U8s l) (hll : l.length ≤ 9223372036854775807) (n : Nat) (hn : n ≤ 1000) : PCall Tryz.prog 37 [UL l, I64 n] (IL (pickS l n)) := by
  by_cases h0 : n = 0
  · subst h0
    have hp : pickS l 0 = [] := rfl
    rw [hp]
    refine Call.enter' (N := 34) (rs := [.tmp 4]) Tryz.func37 rfl rfl rfl (by decide) rfl ?_; simp only [argT]; have hD : (0 : Nat) = 0 := rfl
    by_cases hl0 : 0 < l.length
    · have hli : (0 : Int) < ((l.length : Nat) : Int) := by omega
      repeat' first | (refine SW.seq_k fun K hK => ?_) | (refine SW.block ?_) | (refine SW.region ?_; try simp only [go_sem, hD]) | (apply hK; clear hK K)
      obtain ⟨J, hJ⟩ : ∃ J : Nat → St → Prop, ∀ m S, J m S ↔ S = ⟨[(0, UL l), (1, I64 (0 : Nat)), (5, SN), (6, I64 0)], []⟩ := ⟨fun m S => _, fun _ _ => Iff.rfl⟩
      refine SW.loop' J 0 ((hJ _ _).2 rfl) (by repeat' (first | exact rfl | exact trivial | constructor)) ?_
      intro m S hIn
      obtain rfl := (hJ _ _).1 hIn
      clear hIn
      repeat' first | (refine SW.seq_k fun K hK => ?_) | ((first | refine SW.region ?_ | refine SW.cond ?_ | refine SW.exit ?_ | refine SW.ret ?_); try simp only [go_sem, hD, hli, true_implies]) | (apply hK; clear hK K) | (clear hK K; apply hK; clear hK K)
      refine retQ_le (St.le_say (i := 4) (v := IL []) (fun E u hr => Rep.fl_nil hr)) ?_
      simp only [resL_tmp, resL_nil, tupOf, go_sem, hD]
    · have hli : ¬ (0 : Int) < ((l.length : Nat) : Int) := by omega
      repeat' first | (refine SW.seq_k fun K hK => ?_) | (refine SW.block ?_) | (refine SW.region ?_; try simp only [go_sem, hD]) | (apply hK; clear hK K)
      obtain ⟨J, hJ⟩ : ∃ J : Nat → St → Prop, ∀ m S, J m S ↔ S = ⟨[(0, UL l), (1, I64 (0 : Nat)), (5, SN), (6, I64 0)], []⟩ := ⟨fun m S => _, fun _ _ => Iff.rfl⟩
      refine SW.loop' J 0 ((hJ _ _).2 rfl) (by repeat' (first | exact rfl | exact trivial | constructor)) ?_
      intro m S hIn
      obtain rfl := (hJ _ _).1 hIn
      clear hIn
      repeat' first | (refine SW.seq_k fun K hK => ?_) | ((first | refine SW.region ?_ | refine SW.cond ?_ | refine SW.exit ?_ | refine SW.ret ?_); try simp only [go_sem, hD, hli, true_implies]) | (apply hK; clear hK K) | (clear hK K; apply hK; clear hK K)
      refine retQ_le (St.le_say (i := 4) (v := IL []) (fun E u hr => Rep.fl_nil hr)) ?_
      simp only [resL_tmp, resL_nil, tupOf, go_sem, hD]
  obtain ⟨R, hR⟩ : ∃ R, R = pickS l n := ⟨_, rfl⟩
  rw [← hR]
  have hC0 : R = pickF n [] (l.drop 0) := by rw [hR, pickS, if_neg h0, List.drop_zero]
  clear hR
  have n0 : (0 : Int) < ((n : Nat) : Int) := by omega
  refine Call.enter' (N := 34) (rs := [.tmp 4]) Tryz.func37 rfl rfl rfl (by decide) rfl ?_; simp only [argT]; have hD : (0 : Nat) = 0 := rfl
  repeat' first | (refine SW.seq_k fun K hK => ?_) | (refine SW.block ?_) | (refine SW.region ?_; try simp only [go_sem, hD]) | (apply hK; clear hK K)
  obtain ⟨I, hI⟩ : ∃ I : Nat → St → Prop, ∀ k S, I k S ↔ (∃ (i : Nat) (pre : List Int) (x : SV) (h : Heap), k = l.length - i ∧ i ≤ l.length ∧ R = pickF n pre (l.drop i) ∧ (pre.Nodup ∧ ∀ y ∈ pre, 0 ≤ y ∧ y < (n : Int)) ∧ ((pre = [] ∧ x = SN ∧ h = []) ∨ ∃ g, x = .os g 0 pre.length 1 ∧ h = [(g, .ints .i64 pre)]) ∧ S = ⟨[(0, UL l), (1, I64 n), (5, x), (6, I64 i)], h⟩) := ⟨fun k S => _, fun _ _ => Iff.rfl⟩
  refine SW.loop' I (l.length) ((hI _ _).2 ⟨0, [], SN, [], rfl, Nat.zero_le _, hC0, ⟨List.nodup_nil, fun y hy => by cases hy⟩, .inl ⟨rfl, rfl, rfl⟩, rfl⟩) (by repeat' (first | exact rfl | exact trivial | constructor)) ?_
  intro k S hIn
  obtain ⟨i, pre, x, h, rfl, hi, hC, hpn, hB, rfl⟩ := (hI _ _).1 hIn
  clear hIn
  have ie : ((i : Nat) : Int).toNat = i := Int.toNat_natCast _
  have i0 : (0 : Int) ≤ ((i : Nat) : Int) := by omega
  have hpl := few_nums hpn.1 hpn.2
  clear hC0
  by_cases hlt : i < l.length
  · have hli : ((i : Nat) : Int) < (((l.length) : Nat) : Int) := by omega
    have w1 : IntKind.i64.wrap ((i : Int) + 1) = ((i + 1 : Nat) : Int) := by rw [i64_wrap (by omega) (by omega)]; omega
    rw [pickF_drop hlt] at hC
    have hc := hl _ (getD_mem' 0 hlt)
    have fi : (fun j => [U8 (l.getD j 0)]) i = [U8 (l.getD i 0)] := rfl
    obtain ⟨c, hcd⟩ : ∃ c, c = l.getD i 0 := ⟨_, rfl⟩
    rw [← hcd] at hC hc
    have a1 : c.tmod n = c % n := Int.tmod_eq_emod_of_nonneg hc.1
    have hm0 := Int.emod_nonneg c (show (n : Int) ≠ 0 by omega)
    have hm1 := Int.emod_lt_of_pos c n0
    have a2 : IntKind.i64.wrap (c % n) = c % n := by rw [i64_wrap (by omega) (by omega)]
    have a3 : IntKind.i64.wrap (l.getD i 0) = c := by rw [← hcd, i64_wrap (by omega) (by omega)]
    have nz : ¬ ((n : Nat) : Int) = 0 := by omega
    generalize c % (n : Int) = k at *
    have ba : (pre.length + 1) * 8 ≤ 140737488355328 := by omega
    rcases hB with ⟨rfl, rfl, rfl⟩ | ⟨g, rfl, rfl⟩
    · have ca := at_r k [] 0 (by omega) rfl (iF []) (fun j hj => rfl)
      have hat : atI k 0 [] = -1 := rfl
      rw [hat] at ca hC
      rw [if_pos (by omega)] at hC
      have hC2 : R = pickF n [k] (l.drop (i + 1)) := hC
      have hD : (0 : Nat) = 0 := rfl
      repeat' first | (((with_reducible refine Call.nil_ints 0 .i64 ?_ ?_ ?_); (simp); (rfl); (simp only [List.set_cons_zero]); (refine Call.of_pure ca ?_); (try simp only [go_sem, hD]))) | (with_reducible refine And.intro (by omega) ?_) | (refine SW.seq_k fun K hK => ?_) | (refine SW.block ?_) | ((first | refine SW.region ?_ | refine SW.cond ?_ | refine SW.skip ?_ | (refine allF_i fun b hb => ?_; replace hD := And.intro hb hD; clear hb; try simp only [fresh_cons, fresh_nil, and_true, ne_eq, neF] at hD) | simp only [appK, appOsK]); try simp only [go_sem, hD, hli, ie, i0, w1, n0, nz, a1, a2, a3, true_implies]) | (refine And.intro (by omega) ?_) | (apply hK; clear hK K)
      all_goals
        obtain ⟨c1, rfl⟩ : ∃ x, x = b := ⟨_, rfl⟩
        refine Rnd.le (St.le_only ?_) (Rnd.sub (l.length - (i + 1)) (by omega) ((hI _ _).2 ⟨i + 1, [k], .os c1 0 1 1, [(c1, .ints .i64 [k])], rfl, by omega, hC2, pick_add (pre := []) ⟨List.nodup_nil, fun y hy => by cases hy⟩ hm0 hm1 (by show (-1 : Int) < 0; omega), .inr ⟨c1, rfl, rfl⟩, rfl⟩) (by repeat' (first | exact rfl | exact trivial | constructor)))
        repeat (first | exact List.mem_cons_self | apply List.mem_cons_of_mem)
    · have ca := fun b h hH => at_o b h pre (by omega) hH k
      have hD : (0 : Nat) = 0 := rfl
      by_cases hq : atI k 0 pre < 0
      · rw [if_pos hq] at hC
        have hl2 : (pre ++ [k]).length = pre.length + 1 := by rw [List.length_append]; rfl
        have hpn2 := pick_add hpn hm0 hm1 hq
        generalize atI k 0 pre = q at *
        repeat' first | ((refine Call.mono (ca _ _ (by simp [find_cons, hD])) ?_); (intro r h' hx); (obtain ⟨rfl, rfl⟩ := hx); (try simp only [go_sem, hD, hq])) | (with_reducible refine And.intro (by omega) ?_) | (refine SW.seq_k fun K hK => ?_) | (refine SW.block ?_) | ((first | refine SW.region ?_ | refine SW.cond ?_ | refine SW.skip ?_ | (refine allF_i fun b hb => ?_; replace hD := And.intro hb hD; clear hb; try simp only [fresh_cons, fresh_nil, and_true, ne_eq, neF] at hD) | simp only [appK, appOsK]); try simp only [go_sem, hD, hli, ie, i0, w1, n0, nz, a1, a2, a3, hq, ba, true_implies]) | (apply hK; clear hK K)
        all_goals
          obtain ⟨c1, rfl⟩ : ∃ x, x = b := ⟨_, rfl⟩
          rw [← hl2]
          refine Rnd.le (St.le_only ?_) (Rnd.sub (l.length - (i + 1)) (by omega) ((hI _ _).2 ⟨i + 1, pre ++ [k], .os c1 0 (pre ++ [k]).length 1, [(c1, .ints .i64 (pre ++ [k]))], rfl, by omega, hC, hpn2, .inr ⟨c1, rfl, rfl⟩, rfl⟩) (by repeat' (first | exact rfl | exact trivial | constructor)))
          repeat (first | exact List.mem_cons_self | apply List.mem_cons_of_mem)
      · rw [if_neg hq] at hC
        generalize atI k 0 pre = q at *
        repeat' first | ((refine Call.mono (ca _ _ (by simp [find_cons, hD])) ?_); (intro r h' hx); (obtain ⟨rfl, rfl⟩ := hx); (try simp only [go_sem, hD, hq])) | (refine SW.seq_k fun K hK => ?_) | (refine SW.block ?_) | ((first | refine SW.region ?_ | refine SW.cond ?_ | refine SW.skip ?_); try simp only [go_sem, hD, hli, ie, i0, w1, n0, nz, a1, a2, a3, hq, true_implies]) | (apply hK; clear hK K)
        all_goals
          refine Rnd.le (St.le_only ?_) (Rnd.sub (l.length - (i + 1)) (by omega) ((hI _ _).2 ⟨i + 1, pre, .os g 0 pre.length 1, [(g, .ints .i64 pre)], rfl, by omega, hC, hpn, .inr ⟨g, rfl, rfl⟩, rfl⟩) (by repeat' (first | exact rfl | exact trivial | constructor)))
          repeat (first | exact List.mem_cons_self | apply List.mem_cons_of_mem)
  · have hli : ¬ ((i : Nat) : Int) < (((l.length) : Nat) : Int) := by omega
    rw [List.drop_of_length_le (by omega)] at hC
    have hC2 : R = pre := hC
    subst hC2
    have hD : (0 : Nat) = 0 := rfl
    rcases hB with ⟨rfl, rfl, rfl⟩ | ⟨g, rfl, rfl⟩
    · repeat' first | (refine SW.seq_k fun K hK => ?_) | ((first | refine SW.region ?_ | refine SW.cond ?_ | refine SW.exit ?_ | refine SW.ret ?_); try simp only [go_sem, hD, hli, true_implies]) | (apply hK; clear hK K) | (clear hK K; apply hK; clear hK K)
      refine retQ_le (St.le_say (i := 4) (v := IL []) (fun E u hr => Rep.fl_nil hr)) ?_
      simp only [resL_tmp, resL_nil, tupOf, go_sem, hD]
    · repeat' first | (refine SW.seq_k fun K hK => ?_) | ((first | refine SW.region ?_ | refine SW.cond ?_ | refine SW.exit ?_ | refine SW.ret ?_); try simp only [go_sem, hD, hli, true_implies]) | (apply hK; clear hK K) | (clear hK K; apply hK; clear hK K)
      refine retQ_le (St.le_ints (i := 4) .i64 R rfl rfl (by rw [find_cons, if_pos rfl]) rfl) ?_
      simp only [resL_tmp, resL_nil, tupOf, del_cons, go_sem, hD]
      all_goals exact rfl
end Go.Proofs.YtblfodnajpamfaaGreatDoor
namespace Go.Ab.A15
open Go Go.Ab Go.Ab.A34
def rc0 : Rc := ⟨0, 0, []⟩
def nmT (i : Nat) : ByteArray := if i = 0 then ⟨#[114]⟩ else if i = 1 then ⟨#[115]⟩ else ⟨#[116]⟩
def cutR (x : Rc) : Rc := ⟨x.attrs % 4, x.gap, x.rows⟩
def tabD (x : Rc) (i : Nat) : Tb := ⟨nmT i, (tabS (cutR x)).attrs, (tabS (cutR x)).rows⟩
def ofT (d : List Rc) : List Tb := (List.range (min d.length 3)).map fun i => tabD (d.getD i rc0) i
abbrev RF (d : List Rc) (i : Nat) : List SV := RCC (d.getD i rc0)
abbrev RcL (d : List Rc) : SV := .fl d.length 3 (RF d)
def goodD (d : List Rc) : Prop := ∀ i, i < min d.length 3 → (d.getD i rc0).rows.length ≤ 6
instance (d : List Rc) : Decidable (goodD d) := by unfold goodD; infer_instance
def ofV (d : List Rc) : SV := if goodD d then .tup [DB (ofT d), SB (decide (d.length ≤ 3))] else .tup [.agg [SN], SB false]
structure Lk where
  f : Int
  t : Int
  l : List Int
  r : List Int
def lk0 : Lk := ⟨0, 0, [], []⟩
abbrev LkC (x : Lk) : List SV := [U8 x.f, U8 x.t, UL x.l, UL x.r]
abbrev LkV (x : Lk) : SV := .agg (LkC x)
abbrev LkF (l : List Lk) (i : Nat) : List SV := LkC (l.getD i lk0)
abbrev LkL (l : List Lk) : SV := .fl l.length 4 (LkF l)
structure OkK (x : Lk) : Prop where
  f : 0 ≤ x.f ∧ x.f < 256
  t : 0 ≤ x.t ∧ x.t < 256
  l : U8s x.l
  r : U8s x.r
  nl : x.l.length ≤ 9223372036854775807
  nr : x.r.length ≤ 9223372036854775807
def indS (db : List Tb) (x : Lk) : Dp :=
  let f := db.getD (x.f % db.length).toNat t0
  let t := db.getD (x.t % db.length).toNat t0
  let l := pickS x.l f.attrs.length
  let r := pickS x.r t.attrs.length
  ⟨f.name, l.take (min l.length r.length), t.name, r.take (min l.length r.length)⟩
theorem il_take (l : List Int) (n : Nat) (h : n ≤ l.length) {E : Env} {u : Value} (hr : Rep E u (.fl n 1 (iF l))) : Rep E u (IL (l.take n)) := by
  have e : (l.take n).length = n := by rw [List.length_take]; omega
  unfold IL
  rw [e]
  exact Rep.fl_congr (fun i hi => iF_take hi) hr
end Go.Ab.A15
namespace Go.Proofs.YtblfodnajpamfaaGreatDoor
open Go Go.Ab Go.Ab.A34 Go.Ab.A15
variable [Gl] [Tabs]
theorem ind_r (db : List Tb) (x : Lk) (hx : OkK x) (h0 : 0 < db.length) (h1 : db.length ≤ 1000000) (hat : ∀ t ∈ db, t.attrs.length ≤ 1000) : PCall Tryz.prog 12 [DB db, LkV x] (DV (indS db x)) := by
  have hf := hx.f
  have ht := hx.t
  have p0 : (0 : Int) < ((db.length : Nat) : Int) := by omega
  have nz : ¬ ((db.length : Nat) : Int) = 0 := by omega
  have wf : IntKind.i64.wrap x.f = x.f := i64_wrap (by omega) (by omega)
  have wt : IntKind.i64.wrap x.t = x.t := i64_wrap (by omega) (by omega)
  have mf : x.f.tmod db.length = x.f % db.length := Int.tmod_eq_emod_of_nonneg hf.1
  have mt : x.t.tmod db.length = x.t % db.length := Int.tmod_eq_emod_of_nonneg ht.1
  have f1 := Int.emod_nonneg x.f nz
  have f2 := Int.emod_lt_of_pos x.f p0
  have t1 := Int.emod_nonneg x.t nz
  have t2 := Int.emod_lt_of_pos x.t p0
  have fw : IntKind.i64.wrap (x.f % db.length) = x.f % db.length := i64_wrap (by omega) (by omega)
  have tw : IntKind.i64.wrap (x.t % db.length) = x.t % db.length := i64_wrap (by omega) (by omega)
  unfold indS
  have ff : tF db (x.f % db.length).toNat = tC (db.getD (x.f % db.length).toNat t0) := rfl
  have ft : tF db (x.t % db.length).toNat = tC (db.getD (x.t % db.length).toNat t0) := rfl
  have af := hat _ (getD_mem' t0 (show (x.f % db.length).toNat < db.length by omega))
  have at' := hat _ (getD_mem' t0 (show (x.t % db.length).toNat < db.length by omega))
  generalize x.f % (db.length : Int) = p at *
  generalize x.t % (db.length : Int) = q at *
  generalize db.getD p.toNat t0 = tf at *
  generalize db.getD q.toNat t0 = tt at *
  obtain ⟨fn, fa, fr⟩ := tf
  obtain ⟨tn, ta, tr⟩ := tt
  simp only at af at' ⊢
  have c1 := pick_r x.l hx.l hx.nl fa.length (by omega)
  have c2 := pick_r x.r hx.r hx.nr ta.length (by omega)
  obtain ⟨xf, xt, xl, xr⟩ := x
  simp only at wf wt mf mt c1 c2 ⊢
  generalize pickS xl fa.length = L at *
  generalize pickS xr ta.length = R at *
  refine PCall.sayR (r := .agg [Str fn, .fl (min L.length R.length) 1 (iF L), Str tn, .fl (min L.length R.length) 1 (iF R)]) ?_ fun E v => Rep.agg_mono rfl fun j hj u hr => ?_
  rotate_left
  · match j, hj with
    | 0, _ => exact hr
    | 1, _ => exact il_take L _ (by omega) hr
    | 2, _ => exact hr
    | 3, _ => exact il_take R _ (by omega) hr
  have mi : (if ((R.length : Nat) : Int) < ((L.length : Nat) : Int) then ((R.length : Nat) : Int) else ((L.length : Nat) : Int)) = ((min L.length R.length : Nat) : Int) := by split <;> omega
  have m0 : (0 : Int) ≤ ((min L.length R.length : Nat) : Int) := by omega
  have m1 : ((min L.length R.length : Nat) : Int) ≤ ((L.length : Nat) : Int) := by omega
  have m2 : ((min L.length R.length : Nat) : Int) ≤ ((R.length : Nat) : Int) := by omega
  have me : (((min L.length R.length : Nat) : Int) - 0).toNat = min L.length R.length := by omega
  generalize min L.length R.length = n at *
  refine Call.enter' (N := 60) (rs := [.cell 4 39]) Tryz.func12 rfl rfl rfl (by decide) rfl ?_; simp only [argT]; have hD : (0 : Nat) = 0 := rfl
  repeat' first | (refine SW.seq_k fun K hK => ?_) | ((first | refine SW.region ?_ | (refine allF_i fun b hb => ?_; replace hD := And.intro hb hD; clear hb; try simp only [fresh_cons, fresh_nil, and_true, ne_eq, neF] at hD)); try simp only [go_sem, hD]) | (apply hK; clear hK K)
  obtain ⟨rb, rfl⟩ : ∃ x, x = b := ⟨_, rfl⟩
  obtain ⟨kb, rfl⟩ : ∃ x, x = b := ⟨_, rfl⟩
  obtain ⟨db', rfl⟩ : ∃ x, x = b := ⟨_, rfl⟩
  refine Ab.SW.le ((St.le_freezeP (i := 2) (b := db') (off := 0) (n := 1) (k := .svs [TL db]) rfl (by simp [find_cons, hD]) (by exact Nat.le_refl 1)).trans ((St.le_freezeP (i := 3) (b := kb) (off := 0) (n := 4) (k := .svs (LkC ⟨xf, xt, xl, xr⟩)) rfl (by simp [find_cons, del_cons, hD]) (by exact Nat.le_refl 4)).trans (St.le_pick [(rb, .svs [Str ⟨#[]⟩, SN, Str ⟨#[]⟩, SN])] ?_ ?_))) ?_
  · simp [del_cons, hD]
    try rfl
  · simp
  clear hD
  have hD : (0 : Nat) = 0 := rfl
  simp only [getN, Blk.get]
  repeat' first | (refine SW.seq_k fun K hK => ?_) | ((first | refine SW.region ?_ | refine SW.regionX (id := 1) (Checked.mixed Tryz.checked) ((.one 0 [0, 1, 9, 10, 24, 25] (.one 1 [1, 9, 10, 24, 25] (.one 2 [2, 3, 4, 8, 9, 10, 24, 25] (.one 3 [3, 4, 8, 9, 10, 24, 25] (.one 4 [4, 8, 9, 10, 24, 25] (.one 5 [5, 6, 7, 8, 9, 10, 24, 25] (.one 6 [6, 7, 8, 9, 10, 24, 25] (.one 7 [7, 8, 9, 10, 24, 25] (.one 8 [8, 9, 10, 24, 25] (.one 9 [9, 10, 24, 25] (.one 10 [10, 24, 25] (.fre 11 [11, 12, 20, 21, 25] (.fre 12 [12, 20, 21, 25] (.fre 13 [13, 14, 15, 19, 20, 21, 25] (.fre 14 [14, 15, 19, 20, 21, 25] (.fre 15 [15, 19, 20, 21, 25] (.fre 16 [16, 17, 18, 19, 20, 21, 25] (.fre 17 [17, 18, 19, 20, 21, 25] (.fre 18 [18, 19, 20, 21, 25] (.fre 19 [19, 20, 21, 25] (.fre 20 [20, 21, 25] (.fre 21 [21, 25] (.alt 22 (.alt 23 (.alt 24 (.alt 25 .done .nil) .nil) .nil) (.alt 23 (.alt 22 (.alt 24 (.alt 25 .done .nil) .nil) .nil) .nil)))))))))))))))))))))))) : OX) (by kernel_rfl) ?_ | refine SW.regionZ (id := 2) (Checked.mixed Tryz.checked) ((.one 0 [0, 1, 5, 11, 12, 13] (.one 1 [1, 5, 11, 12, 13] (.one 2 [2, 3, 4, 5, 11, 12, 13] (.one 3 [3, 4, 5, 11, 12, 13] (.one 4 [4, 5, 11, 12, 13] (.one 5 [5, 11, 12, 13] (.one 6 [6, 7, 11, 12, 13] (.one 7 [7, 11, 12, 13] (.one 8 [8, 9, 10, 11, 12, 13] (.one 9 [9, 10, 11, 12, 13] (.one 10 [10, 11, 12, 13] (.one 11 [11, 12, 13] (.one 12 [12, 13] (.one 13 [13] .done)))))))))))))) : OZ) (by kernel_rfl) ?_ | refine SW.regionZ (id := 4) (Checked.mixed Tryz.checked) ((.one 0 [0, 1, 10, 11] (.one 1 [1, 10, 11] (.one 2 [2, 4, 10, 11] (.one 3 [3, 4, 10, 11] (.one 4 [4, 10, 11] (.one 5 [5, 6, 10, 11] (.one 6 [6, 10, 11] (.one 7 [7, 9, 10, 11] (.one 8 [8, 9, 10, 11] (.one 9 [9, 10, 11] (.one 10 [10, 11] (.alt 11 .done .nil)))))))))))) : OZ) (by kernel_rfl) ?_ | refine SW.ret ?_ | refine ⟨_, c1, ?_⟩ | refine ⟨_, c2, ?_⟩ | (refine allF_i fun b hb => ?_; replace hD := And.intro hb hD; clear hb; try simp only [fresh_cons, fresh_nil, and_true, ne_eq, neF] at hD)); try simp only [go_sem, hD, wf, wt, mf, mt, fw, tw, f1, f2, t1, t2, ff, ft, nz, mi, m0, m1, m2, me, true_implies]) | (apply hK; clear hK K) | (refine And.intro ?_ ?_)
  all_goals
    apply ret_cell (i := 4) (n := 4); exact rfl; (simp only [go_sem, hD]; try rfl); (first | exact Nat.le_refl _ | decide); simp only [resL_tmp, resL_cellE, resC_ok, resL_nil, tupOf, getN, go_sem, hD]
end Go.Proofs.YtblfodnajpamfaaGreatDoor
