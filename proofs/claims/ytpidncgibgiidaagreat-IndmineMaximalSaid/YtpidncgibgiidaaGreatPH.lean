import Derived.Test.YtpidncgibgiidaaGreatPG
set_option linter.unusedSimpArgs false
set_option linter.unusedVariables false
set_option linter.unusedSectionVars false
namespace Go.Ab.A15
open Go Go.Ab Go.Ab.A34 Go.Ab.A01
theorem okA {db : List Tb} (h : Sm db) : OkA (allP db 6 0) where
  cl := fun d hd q hq h1 => mem_wo h hd hq h1
  lr := fun d hd => (all_mem h hd).2.2.2.2.2
  l6 := fun d hd => by
    obtain ⟨a1, _, _, _, a5, _⟩ := all_mem h hd
    exact ⟨a1.1, by omega⟩
  n := all_len h 6
  nd := all_nd h 6
end Go.Ab.A15
namespace Go.Proofs.YtpidncgibgiidaaGreat
open Go Go.Ab Go.Ab.A34 Go.Ab.A15 Go.Ab.A01
variable [Gl] [Tabs]
theorem max_sm (db : List Tb) (h : Sm db) : PCall Tryz.prog 16 [DB db] (.tup [DpL (maxP (allP db 6 0)), I64 0]) := by
  have hl := all_len h 6
  have hA := okA h
  exact pure_acc (maximal_p db (by have := h.n3; omega) (allP db 6 0) rfl (by omega) (fun d hd => ⟨hA.lr d hd, (hA.l6 d hd).2⟩) (all_p db 6 (h.okF (by omega)) h.chkD (by omega)))
set_option maxHeartbeats 4000000 in
set_option maxRecDepth 20000 in
theorem law_max (d : List Rc) (hd : OkRcs d) (hdl : d.length ≤ 9223372036854775807) : PCall Tryz.prog 4 [RcL d] (SB true) := by
  have of := of_r d hd hdl
  have aw := awake_c
  by_cases h1 : goodD d
  · rw [ofV_good h1] at of
    have S := sm_dra h1
    generalize ofT d = db at *
    generalize decide (d.length ≤ 3) = D3 at *
    cases D3 with
    | false =>
      refine Call.enter' (N := 123) (rs := [.tmp 2]) Tryz.func4 rfl rfl rfl (by decide) rfl ?_; simp only [argT]; have hD : (0 : Nat) = 0 := rfl
      repeat' first | (refine SW.seq_k fun K hK => ?_) | ((first | refine SW.region ?_ | refine SW.cond ?_ | refine SW.ret ?_ | refine Call.of_pure (of) ?_ | refine Call.of_pure (aw) ?_ | (refine allF_i fun b hb => ?_; replace hD := And.intro hb hD; clear hb; try simp only [fresh_cons, fresh_nil, and_true, ne_eq, neF] at hD)); try simp only [go_sem, hD, true_implies]) | (apply hK; clear hK K)
      refine ret_pure ?_; simp only [resL_tmp, resL_nil, tupOf, go_sem, hD]
    | true =>
      have mp := max_sm db S
      have mr := max_r db S
      rw [mxP_eq] at mr
      have rn := ref_sm db S 6 (by omega) (by omega)
      have hA := okA S
      clear S
      generalize allP db 6 0 = A at *
      have hAn := hA.n
      have hst := Cls.start hA.nd
      have hMs : ∀ x ∈ maxP A, x ∈ A := hst.sub
      have hMl := nd_len hst.nd hst.sub
      have hos : ∀ x ∈ A, OkS x := fun x hx => ⟨by have := hA.l6 x hx; omega, by have := hA.l6 x hx; have := hA.lr x hx; omega⟩
      have sm := same_d (maxP A) (maxP A) (by omega) (by omega) (fun x hx => hos x (hMs x hx)) (fun x hx => hos x (hMs x hx))
      rw [decide_eq_true rfl] at sm
      have cl := clone_d (maxP A) (by omega)
      have h0 : maxP A = [] → A = [] := fun e => by
        have hp := Cls.perm (C := maxP A) (i := 0) hst (by rw [e]; exact Nat.le_refl 0) hA.nd hA.l6
        have := hp.length_eq
        rw [e] at this
        exact List.eq_nil_of_length_eq_zero this.symm
      generalize maxP A = M at *
      refine Call.enter' (N := 123) (rs := [.tmp 2]) Tryz.func4 rfl rfl rfl (by decide) rfl ?_; simp only [argT]; have hD : (0 : Nat) = 0 := rfl
      repeat' first | ((with_reducible refine Call.mono (Call.frameN (h1 := []) cl) ?_); (intro rr h' hx); (obtain ⟨h1', rfl, hx, hnd⟩ := hx); (refine stop_i ?_)) | (refine SW.seq_k fun K hK => ?_) | ((first | refine SW.region ?_ | refine SW.cond ?_ | refine SW.skip ?_ | refine Call.of_pure (of) ?_ | refine Call.of_pure (aw) ?_ | refine Call.of_pure (mp) ?_ | refine Call.of_pure (mr) ?_ | refine Call.of_pure (sm) ?_ | (refine allF_i fun b hb => ?_; replace hD := And.intro hb hD; clear hb; try simp only [fresh_cons, fresh_nil, and_true, ne_eq, neF] at hD)); try simp only [go_sem, hD, true_implies]) | (apply hK; clear hK K)
      obtain ⟨xb, rfl⟩ : ∃ x, x = b := ⟨_, rfl⟩
      refine ⟨?_⟩
      try simp only [go_sem, hD]
      (first | apply hK | (clear hK K; apply hK) | (clear hK K; clear hK K; apply hK)); clear hK K
      rcases hx with ⟨hM, rfl, rfl⟩ | ⟨cb, rfl, rfl⟩
      · have hA0 := h0 hM
        subst hA0
        clear hnd cl mp mr sm h0 hMs hst hMl hM
        refine Ab.SW.le (S' := ⟨[(3, .fp [TL db]), (9, SN)], []⟩) ?_ ?_
        · refine St.le.trans (St.le_freezeP (i := 3) (b := xb) (off := 0) (n := 1) (k := .svs [TL db]) rfl (by rw [List.nil_append, find_cons, if_pos rfl]) (by exact Nat.le_refl 1)) ?_
          rw [List.nil_append, del_head]
          simp only [getN, Blk.get]
          exact St.le_sub (by repeat' (first | exact rfl | exact trivial | constructor))
        clear hD
        have hD : (0 : Nat) = 0 := rfl
        repeat' first | (refine SW.seq_k fun K hK => ?_) | (refine SW.region ?_; try simp only [go_sem, hD, true_implies]) | (apply hK; clear hK K)
        refine SW.block ?_
        obtain ⟨J, hJ⟩ : ∃ J : Nat → St → Prop, ∀ m S, J m S ↔ S = ⟨[(3, .fp [TL db]), (9, SN), (10, I64 (0 : Nat))], []⟩ := ⟨fun m S => _, fun _ _ => Iff.rfl⟩
        refine SW.loop' J 0 ((hJ _ _).2 rfl) (by repeat' (first | exact rfl | exact trivial | constructor)) ?_
        intro m S hIn
        obtain rfl := (hJ _ _).1 hIn
        clear hIn
        have hz : ¬ ((0 : Nat) : Int) < 0 := by omega
        have hll : (([] : List Dp).length : Int) = 0 := rfl
        repeat' first | (refine SW.seq_k fun K hK => ?_) | ((first | refine SW.region ?_ | refine SW.cond ?_ | refine SW.skip ?_ | refine SW.exit ?_ | refine Call.of_pure (rn) ?_); try simp only [go_sem, hD, hz, hll, true_implies]) | (apply hK; clear hK K) | (clear hK K; apply hK; clear hK K)
        refine SW.block ?_
        obtain ⟨J2, hJ2⟩ : ∃ J2 : Nat → St → Prop, ∀ m S, J2 m S ↔ S = ⟨[(113, I64 0), (114, I64 (0 : Nat))], []⟩ := ⟨fun m S => _, fun _ _ => Iff.rfl⟩
        refine SW.loop' J2 0 ((hJ2 _ _).2 rfl) (by repeat' (first | exact rfl | exact trivial | constructor)) ?_
        intro m S hIn
        obtain rfl := (hJ2 _ _).1 hIn
        clear hIn
        repeat' first | (refine SW.seq_k fun K hK => ?_) | ((first | refine SW.region ?_ | refine SW.cond ?_ | refine SW.exit ?_ | refine SW.ret ?_); try simp only [go_sem, hD, hz, hll, true_implies]) | (apply hK; clear hK K) | (clear hK K; apply hK; clear hK K)
        refine ret_pure ?_; simp only [resL_tmp, resL_nil, tupOf, go_sem, hD]
      · have hne : ¬ cb = xb := by simpa using hnd
        clear hnd cl mp mr sm h0 hMs
        refine Ab.SW.le (S' := ⟨[(3, .fp [TL db]), (9, .os cb 0 M.length 4)], [(cb, .svs (dCs M))]⟩) ?_ ?_
        · refine St.le.trans (St.le_freezeP (i := 3) (b := xb) (off := 0) (n := 1) (k := .svs [TL db]) rfl (by simp [find_cons, hne]) (by exact Nat.le_refl 1)) ?_
          simp only [getN, Blk.get, List.cons_append, List.nil_append, Heap.del, hne, if_true, if_false]
          exact St.le_sub (by repeat' (first | exact rfl | exact trivial | constructor))
        clear hD
        have hD : (0 : Nat) = 0 := rfl
        repeat' first | (refine SW.seq_k fun K hK => ?_) | (refine SW.region ?_; try simp only [go_sem, hD, true_implies]) | (apply hK; clear hK K)
        refine SW.block ?_
        obtain ⟨I, hI⟩ : ∃ I : Nat → St → Prop, ∀ n S, I n S ↔ (∃ (j : Nat) (C : List Dp) (gb : Nat), n = A.length - j ∧ j ≤ C.length ∧ Cls A C j 0 ∧
          S = ⟨[(3, .fp [TL db]), (9, .os gb 0 C.length 4), (10, I64 j)], [(gb, .svs (dCs C))]⟩) := ⟨fun n S => _, fun _ _ => Iff.rfl⟩
        refine SW.loop' I A.length ((hI _ _).2 ⟨0, M, cb, rfl, Nat.zero_le _, hst, rfl⟩) (by repeat' (first | exact rfl | exact trivial | constructor)) ?_
        intro n S hIn
        obtain ⟨j, C, gb, rfl, hjl, hC, rfl⟩ := (hI _ _).1 hIn
        clear hIn hst hMl
        have hCn := nd_len hC.nd hC.sub
        have ie : ((j : Nat) : Int).toNat = j := Int.toNat_natCast _
        have i0 : (0 : Int) ≤ ((j : Nat) : Int) := by omega
        by_cases hlt : j < C.length
        · have hli : ((j : Nat) : Int) < (((C.length) : Nat) : Int) := by omega
          have w1 : IntKind.i64.wrap ((j : Int) + 1) = ((j + 1 : Nat) : Int) := by rw [i64_wrap (by omega) (by omega)]; omega
          have hin := cl_p db A C j gb hA hC hlt
          obtain ⟨g1, g2, g3, g4⟩ := dCs_g4 C j hlt
          have hcc : (dCs C).length = C.length * 4 := dCs_len C
          generalize C.getD j d0 = v at *
          obtain ⟨v1, v2, v3, v4⟩ := v
          simp only at g1 g2 g3 g4 hin
          repeat' first | (refine SW.seq_k fun K hK => ?_) | ((first | refine SW.region ?_ | refine SW.cond ?_ | refine SW.skip ?_); try simp only [go_sem, hD, hli, ie, i0, w1, g1, g2, g3, g4, hcc, true_implies]) | (apply hK; clear hK K)
          refine SW.block ?_
          repeat' first | (with_reducible refine And.intro (by omega) ?_) | (refine SW.seq_k fun K hK => ?_) | (refine SW.region ?_; try simp only [go_sem, hD, hli, ie, i0, w1, g1, g2, g3, g4, hcc, true_implies]) | (apply hK; clear hK K)
          refine Ab.SW.cut _ (Ab.SW.le (St.le_sub (by repeat' (first | exact rfl | exact trivial | constructor))) hin) ?_
          rintro S' ⟨C2, gb2, hC2, hle2, hle⟩
          try simp only [go_sem, hD]
          (first | apply hK | (clear hK K; apply hK) | (clear hK K; clear hK K; apply hK)); clear hK K
          refine Ab.SW.le hle ?_
          clear hle hin
          repeat' (refine SW.region ?_; try simp only [go_sem, hD, hli, ie, i0, w1, true_implies])
          refine Rnd.sub (A.length - (j + 1)) (by omega) ((hI _ _).2 ⟨j + 1, C2, gb2, rfl, by omega, hC2, rfl⟩) (by repeat' (first | exact rfl | exact trivial | constructor))
        · have hli : ¬ ((j : Nat) : Int) < (((C.length) : Nat) : Int) := by omega
          have hp := hC.perm (by omega) hA.nd hA.l6
          have hlen := hp.length_eq
          have hle : ((A.length : Nat) : Int) = ((C.length : Nat) : Int) := by omega
          have hmem : ∀ x, x ∈ A → x ∈ C := fun x hx => hp.mem_iff.2 hx
          have hos2 : ∀ x ∈ C, OkS x := fun x hx => hos x (hC.sub x hx)
          clear hI
          repeat' first | (refine SW.seq_k fun K hK => ?_) | ((first | refine SW.region ?_ | refine SW.cond ?_ | refine SW.skip ?_ | refine SW.exit ?_ | refine Call.of_pure (rn) ?_); try simp only [go_sem, hD, hli, hle, true_implies]) | (apply hK; clear hK K) | (clear hK K; apply hK; clear hK K)
          refine Ab.SW.le (St.le_sub (l := [(9, .os gb 0 C.length 4), (112, DpL A), (113, I64 A.length), (114, I64 (0 : Nat))]) (by repeat' (first | exact rfl | exact trivial | exact int_eq (by omega) | constructor))) ?_
          refine SW.block ?_
          obtain ⟨I, hI⟩ : ∃ I : Nat → St → Prop, ∀ k S, I k S ↔ (∃ (q : Nat) , k = A.length - q ∧ q ≤ A.length ∧ 0 = 0 ∧ S = ⟨[(9, .os gb 0 C.length 4), (112, DpL A), (113, I64 A.length), (114, I64 q)], [(gb, .svs (dCs C))]⟩) := ⟨fun k S => _, fun _ _ => Iff.rfl⟩
          refine SW.loop' I (A.length) ((hI _ _).2 ⟨0, rfl, Nat.zero_le _, rfl, rfl⟩) (by repeat' (first | exact rfl | exact trivial | constructor)) ?_
          intro k S hIn
          obtain ⟨q, rfl, hi, hT, rfl⟩ := (hI _ _).1 hIn
          clear hIn
          have ie : ((q : Nat) : Int).toNat = q := Int.toNat_natCast _
          have i0 : (0 : Int) ≤ ((q : Nat) : Int) := by omega
          by_cases hlt2 : q < A.length
          · have hli : ((q : Nat) : Int) < (((A.length) : Nat) : Int) := by omega
            have w1 : IntKind.i64.wrap ((q : Int) + 1) = ((q + 1 : Nat) : Int) := by rw [i64_wrap (by omega) (by omega)]; omega
            have fi : dpF A q = dC (A.getD q d0) := rfl
            have hxA := getD_mem' d0 hlt2
            have hco := cont_o 23 [.fp (dC (A.getD q d0))] (fun y => decide (y = A.getD q d0)) C gb (by omega) (fun y hy => eqc_2 y (A.getD q d0) (hos2 y hy) (hos _ hxA))
            rw [any_mem, decide_eq_true (hmem _ hxA)] at hco
            generalize A.getD q d0 = v at *
            obtain ⟨v1, v2, v3, v4⟩ := v
            repeat' first | (refine SW.seq_k fun K hK => ?_) | ((first | refine SW.region ?_ | refine SW.cond ?_ | refine SW.skip ?_); try simp only [go_sem, hD, hli, ie, i0, w1, fi, true_implies]) | (apply hK; clear hK K)
            refine SW.block ?_
            repeat' first | ((refine Ab.SW.le (St.le_freezeP (i := 16) (n := 4) rfl (by rw [find_cons, if_pos rfl]) (by exact Nat.le_refl 4)) ?_); (rw [del_head]); (simp only [getN, Blk.get])) | ((with_reducible refine Call.mono hco ?_); (intro rr h' hx); (obtain ⟨rfl, rfl⟩ := hx); (try simp only [go_sem, hD])) | (refine SW.seq_k fun K hK => ?_) | ((first | refine SW.region ?_ | refine SW.cond ?_ | refine SW.skip ?_ | (refine allF_i fun b hb => ?_; replace hD := And.intro hb hD; clear hb; try simp only [fresh_cons, fresh_nil, and_true, ne_eq, neF] at hD)); try simp only [go_sem, hD, hli, ie, i0, w1, fi, true_implies]) | (apply hK; clear hK K)
            refine Rnd.sub (A.length - (q + 1)) (by omega) ((hI _ _).2 ⟨q + 1, rfl, by omega, rfl, rfl⟩) (by repeat' (first | exact rfl | exact trivial | constructor))
          · have hli : ¬ ((q : Nat) : Int) < (((A.length) : Nat) : Int) := by omega
            repeat' first | (refine SW.seq_k fun K hK => ?_) | ((first | refine SW.region ?_ | refine SW.cond ?_ | refine SW.exit ?_ | refine SW.ret ?_); try simp only [go_sem, hD, hli, true_implies]) | (apply hK; clear hK K) | (clear hK K; apply hK; clear hK K)
            refine ret_pure ?_; simp only [resL_tmp, resL_nil, tupOf, go_sem, hD]
  · rw [ofV_bad h1] at of
    refine Call.enter' (N := 123) (rs := [.tmp 2]) Tryz.func4 rfl rfl rfl (by decide) rfl ?_; simp only [argT]; have hD : (0 : Nat) = 0 := rfl
    repeat' first | (refine SW.seq_k fun K hK => ?_) | ((first | refine SW.region ?_ | refine SW.cond ?_ | refine SW.ret ?_ | refine Call.of_pure (of) ?_ | refine Call.of_pure (aw) ?_ | (refine allF_i fun b hb => ?_; replace hD := And.intro hb hD; clear hb; try simp only [fresh_cons, fresh_nil, and_true, ne_eq, neF] at hD)); try simp only [go_sem, hD, true_implies]) | (apply hK; clear hK K)
    refine ret_pure ?_; simp only [resL_tmp, resL_nil, tupOf, go_sem, hD]
end Go.Proofs.YtpidncgibgiidaaGreat
