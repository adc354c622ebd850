/- A copy of a tableau of two rows, that is owned. -/
import Derived.Test.YtmcmphmhjikgkaaGreatDoorC6
set_option linter.unusedSimpArgs false
set_option linter.unusedVariables false
set_option linter.unusedSectionVars false
namespace Go.Proofs.YtmcmphmhjikgkaaGreatDoor
open Go Go.Ab Go.Ab.A20
variable [Gl] [Bru]

theorem clone_n (n s : Nat) (hn : n ≤ 6) (h0 : 0 < n) : Ab.Call Tryz.prog 44 [NR n s] [] (fun r h' => ∃ b, r = .os b 0 n 1 ∧ h' = [(b, .svs (rowL n s))]) :=
  Call.mono (clone_o n s hn) fun r h' hx => hx.elim (fun e => absurd e.1 (by omega)) id

set_option maxHeartbeats 2000000 in
set_option maxRecDepth 20000 in
theorem copied_o (n s t : Nat) (hn : n ≤ 6) (h0 : 0 < n) : Ab.Call Tryz.prog 65 [TB n [s, t]] [] (fun r h' => ∃ b p q, r = .agg [I64 n, .os b 0 2 1] ∧ h' = [(b, .svs [.os p 0 n 1, .os q 0 n 1]), (p, .svs (rowL n s)), (q, .svs (rowL n t))]) := by
  refine Call.enter' (N := 25) (rs := [.cell 2 40]) Tryz.func65 rfl rfl rfl (by decide) rfl ?_; simp only [argT]; have hD : (0 : Nat) = 0 := rfl
  repeat' first | (with_reducible refine And.intro (by omega) ?_) | (refine SW.seq_k fun K hK => ?_) | (refine SW.block ?_) | ((first | refine SW.region ?_ | refine SW.regionD (Checked.mixed Tryz.checked) (by kernel_rfl) ?_ | refine SW.cond ?_ | refine SW.skip ?_ | refine SW.exit ?_ | refine SW.ret ?_ | (refine allF_i fun b hb => ?_; replace hD := And.intro hb hD; clear hb; try simp only [fresh_cons, fresh_nil, and_true, ne_eq, neF] at hD) | simp only [appK, appOsK]); try simp only [go_sem, hD]) | (refine And.intro (by omega) ?_) | (refine ifI (fun hc => ?_) (fun hc => ?_) <;> first | (exfalso; omega) | skip) | ((first | apply hK | ((iterate 1 (clear hK K)); apply hK) | ((iterate 2 (clear hK K)); apply hK) | ((iterate 3 (clear hK K)); apply hK) | ((iterate 4 (clear hK K)); apply hK) | ((iterate 5 (clear hK K)); apply hK)); clear hK K)
  rename_i bb db
  obtain ⟨cb, rfl⟩ : ∃ x, x = b := ⟨_, rfl⟩
  refine Ab.SW.le (St.le_pick [(cb, .svs [I64 n, .sc (.slice none 0 0)]), (db, .svs [I64 0, .sc (.slice none 0 0)])] ?_ ?_) ?_
  · repeat' (first | exact (fun x hx => (List.not_mem_nil hx).elim) | refine List.forall_mem_cons.2 ⟨?_, ?_⟩ | exact List.mem_cons_self | apply List.mem_cons_of_mem)
  · simp [fresh_cons, fresh_nil, hD]
  have hcd : ¬ cb = db := by simp [hD]
  have hdc : ¬ db = cb := fun e => hcd e.symm
  clear hD
  obtain ⟨J, hJ⟩ : ∃ J : Nat → St → Prop, ∀ m S, J m S ↔ (m = 2 ∧ S = ⟨[(2, .op db 0), (3, .op cb 0), (10, RL n [s, t]), (11, I64 2), (12, I64 0)], [(cb, .svs [I64 n, .sc (.slice none 0 0)]), (db, .svs [I64 0, .sc (.slice none 0 0)])]⟩ ∨
      m = 1 ∧ (∃ b p, ¬ b = p ∧ ¬ b = cb ∧ ¬ b = db ∧ ¬ p = cb ∧ ¬ p = db ∧ S = ⟨[(2, .op db 0), (3, .op cb 0), (10, RL n [s, t]), (11, I64 2), (12, I64 1)], [(b, .svs [.os p 0 n 1]), (p, .svs (rowL n s)), (cb, .svs [I64 n, .os b 0 1 1]), (db, .svs [I64 0, .sc (.slice none 0 0)])]⟩) ∨
      m = 0 ∧ (∃ b p q, ¬ b = p ∧ ¬ b = q ∧ ¬ p = q ∧ ¬ b = cb ∧ ¬ b = db ∧ ¬ p = cb ∧ ¬ p = db ∧ ¬ q = cb ∧ ¬ q = db ∧ S = ⟨[(2, .op db 0), (3, .op cb 0), (10, RL n [s, t]), (11, I64 2), (12, I64 2)], [(b, .svs [.os p 0 n 1, .os q 0 n 1]), (p, .svs (rowL n s)), (q, .svs (rowL n t)), (cb, .svs [I64 n, .os b 0 2 1]), (db, .svs [I64 0, .sc (.slice none 0 0)])]⟩)) := ⟨fun m S => _, fun _ _ => Iff.rfl⟩
  refine SW.loop' J 2 ((hJ _ _).2 (.inl ⟨rfl, rfl⟩)) (by repeat' (first | exact rfl | exact trivial | exact int_eq (by omega) | exact int_eq (by (rw [i64_wrap] <;> omega)) | constructor)) ?_
  intro m S hIn
  have hc := (hJ _ _).1 hIn
  clear hIn
  have w1 : IntKind.i64.wrap ((0 : Int) + 1) = 1 := by decide
  have w2 : IntKind.i64.wrap ((1 : Int) + 1) = 2 := by decide
  rcases hc with ⟨rfl, rfl⟩ | ⟨rfl, b, p, n1, n2, n3, n4, n5, rfl⟩ | ⟨rfl, b, p, q, n1, n2, n3, n4, n5, n6, n7, n8, n9, rfl⟩
  · have hD := And.intro hcd hdc
    simp only [neF] at hD
    have cl := clone_n n s hn h0
    have tf : rF n [s, t] 0 = [NR n s] := rfl
    repeat' first | (with_reducible refine Call.mono (Call.frameN (h1 := []) cl) ?_; intro r h' hx; obtain ⟨h1', rfl, ⟨g, rfl, rfl⟩, hnd⟩ := hx; simp only [List.cons_append, List.nil_append] at hnd; have hg := fresh_of_nodup hnd; simp only [fresh_cons, fresh_nil, and_true, ne_eq, neF] at hg; replace hD := And.intro hg hD; clear hg hnd; simp only [go_sem, hD, List.cons_append, List.nil_append]) | (with_reducible refine And.intro (by omega) ?_) | (refine SW.seq_k fun K hK => ?_) | (refine SW.block ?_) | ((first | refine SW.region ?_ | refine SW.regionY [3] (id := 5) (Checked.mixed Tryz.checked) ((.one 2 [2, 3, 4, 5, 6, 7] (.alt 0 false (.alt 1 false (.alt 3 true (.alt 4 false (.alt 5 false (.one 6 [6, 7] (.alt 7 false .done .nil)) .nil) .nil) .nil) (.alt 3 true (.one 1 [1, 5, 6, 7] (.alt 4 false (.alt 5 false (.one 6 [6, 7] (.alt 7 false .done .nil)) .nil) .nil)) .nil)) (.alt 3 true (.one 0 [0, 1, 5, 6, 7] (.one 1 [1, 5, 6, 7] (.alt 4 false (.alt 5 false (.one 6 [6, 7] (.alt 7 false .done .nil)) .nil) .nil))) .nil))) : OY) (by kernel_rfl) ?_ | refine SW.regionD (Checked.mixed Tryz.checked) (by kernel_rfl) ?_ | refine SW.cond ?_ | refine SW.skip ?_ | refine SW.exit ?_ | refine SW.ret ?_ | (refine allF_i fun b hb => ?_; replace hD := And.intro hb hD; clear hb; try simp only [fresh_cons, fresh_nil, and_true, ne_eq, neF] at hD) | simp only [appK, appOsK]); try simp only [go_sem, hD, tf, w1, true_implies]) | (refine And.intro (by omega) ?_) | (refine ifI (fun hc => ?_) (fun hc => ?_) <;> first | (exfalso; omega) | skip) | ((first | apply hK | ((iterate 1 (clear hK K)); apply hK) | ((iterate 2 (clear hK K)); apply hK) | ((iterate 3 (clear hK K)); apply hK) | ((iterate 4 (clear hK K)); apply hK) | ((iterate 5 (clear hK K)); apply hK)); clear hK K) | (refine And.intro ?_ ?_)
    all_goals
      refine Rnd.le (St.le_pick [(b, .svs [.os g 0 n 1]), (g, .svs (rowL n s)), (cb, .svs [I64 n, .os b 0 1 1]), (db, .svs [I64 0, .sc (.slice none 0 0)])] ?_ ?_) (Rnd.sub 1 (by omega) ((hJ _ _).2 (.inr (.inl ⟨rfl, b, g, by simp [hD], by simp [hD], by simp [hD], by simp [hD], by simp [hD], rfl⟩))) (by repeat' (first | exact rfl | exact trivial | exact int_eq (by omega) | exact int_eq (by (rw [i64_wrap] <;> omega)) | constructor)))
      · repeat' (first | exact (fun x hx => (List.not_mem_nil hx).elim) | refine List.forall_mem_cons.2 ⟨?_, ?_⟩ | exact List.mem_cons_self | apply List.mem_cons_of_mem)
      · simp [fresh_cons, fresh_nil, hD]
  · have hD := And.intro hcd (And.intro hdc (And.intro n1 (And.intro n2 (And.intro n3 (And.intro n4 (And.intro n5 (And.intro (fun e => n1 e.symm : ¬ p = b) (And.intro (fun e => n2 e.symm : ¬ cb = b) (And.intro (fun e => n3 e.symm : ¬ db = b) (And.intro (fun e => n4 e.symm : ¬ cb = p) (fun e => n5 e.symm : ¬ db = p)))))))))))
    simp only [neF] at hD
    clear n1 n2 n3 n4 n5 hcd hdc
    obtain ⟨y, rfl⟩ : ∃ x, x = b := ⟨_, rfl⟩
    have cl := clone_n n t hn h0
    have tf : rF n [s, t] 1 = [NR n t] := rfl
    repeat' first | (with_reducible refine Call.mono (Call.frameN (h1 := []) cl) ?_; intro r h' hx; obtain ⟨h1', rfl, ⟨g, rfl, rfl⟩, hnd⟩ := hx; simp only [List.cons_append, List.nil_append] at hnd; have hg := fresh_of_nodup hnd; simp only [fresh_cons, fresh_nil, and_true, ne_eq, neF] at hg; replace hD := And.intro hg hD; clear hg hnd; simp only [go_sem, hD, List.cons_append, List.nil_append]) | (with_reducible refine And.intro (by omega) ?_) | (refine SW.seq_k fun K hK => ?_) | (refine SW.block ?_) | ((first | refine SW.region ?_ | refine SW.regionY [3] (id := 5) (Checked.mixed Tryz.checked) ((.one 2 [2, 3, 4, 5, 6, 7] (.alt 0 false (.alt 1 false (.alt 3 true (.alt 4 false (.alt 5 false (.one 6 [6, 7] (.alt 7 false .done .nil)) .nil) .nil) .nil) (.alt 3 true (.one 1 [1, 5, 6, 7] (.alt 4 false (.alt 5 false (.one 6 [6, 7] (.alt 7 false .done .nil)) .nil) .nil)) .nil)) (.alt 3 true (.one 0 [0, 1, 5, 6, 7] (.one 1 [1, 5, 6, 7] (.alt 4 false (.alt 5 false (.one 6 [6, 7] (.alt 7 false .done .nil)) .nil) .nil))) .nil))) : OY) (by kernel_rfl) ?_ | refine SW.regionD (Checked.mixed Tryz.checked) (by kernel_rfl) ?_ | refine SW.cond ?_ | refine SW.skip ?_ | refine SW.exit ?_ | refine SW.ret ?_ | (refine allF_i fun b hb => ?_; replace hD := And.intro hb hD; clear hb; try simp only [fresh_cons, fresh_nil, and_true, ne_eq, neF] at hD) | simp only [appK, appOsK]); try simp only [go_sem, hD, tf, w2, true_implies]) | (refine And.intro (by omega) ?_) | (refine ifI (fun hc => ?_) (fun hc => ?_) <;> first | (exfalso; omega) | skip) | ((first | apply hK | ((iterate 1 (clear hK K)); apply hK) | ((iterate 2 (clear hK K)); apply hK) | ((iterate 3 (clear hK K)); apply hK) | ((iterate 4 (clear hK K)); apply hK) | ((iterate 5 (clear hK K)); apply hK)); clear hK K) | (refine And.intro ?_ ?_)
    all_goals
      refine Rnd.le (St.le_pick [(b, .svs [.os p 0 n 1, .os g 0 n 1]), (p, .svs (rowL n s)), (g, .svs (rowL n t)), (cb, .svs [I64 n, .os b 0 2 1]), (db, .svs [I64 0, .sc (.slice none 0 0)])] ?_ ?_) (Rnd.sub 0 (by omega) ((hJ _ _).2 (.inr (.inr ⟨rfl, b, p, g, by simp [hD], by simp [hD], by simp [hD], by simp [hD], by simp [hD], by simp [hD], by simp [hD], by simp [hD], by simp [hD], rfl⟩))) (by repeat' (first | exact rfl | exact trivial | exact int_eq (by omega) | exact int_eq (by (rw [i64_wrap] <;> omega)) | constructor)))
      · repeat' (first | exact (fun x hx => (List.not_mem_nil hx).elim) | refine List.forall_mem_cons.2 ⟨?_, ?_⟩ | exact List.mem_cons_self | apply List.mem_cons_of_mem)
      · simp [fresh_cons, fresh_nil, hD]
  · have hD := And.intro hcd (And.intro hdc (And.intro n1 (And.intro n2 (And.intro n3 (And.intro n4 (And.intro n5 (And.intro n6 (And.intro n7 (And.intro n8 (And.intro n9 (And.intro (fun e => n4 e.symm : ¬ cb = b) (And.intro (fun e => n5 e.symm : ¬ db = b) (And.intro (fun e => n6 e.symm : ¬ cb = p) (And.intro (fun e => n7 e.symm : ¬ db = p) (And.intro (fun e => n8 e.symm : ¬ cb = q) (fun e => n9 e.symm : ¬ db = q))))))))))))))))
    simp only [neF] at hD
    repeat' first | (with_reducible refine And.intro (by omega) ?_) | (refine SW.seq_k fun K hK => ?_) | (refine SW.block ?_) | ((first | refine SW.region ?_ | refine SW.regionD (Checked.mixed Tryz.checked) (by kernel_rfl) ?_ | refine SW.cond ?_ | refine SW.skip ?_ | refine SW.exit ?_ | refine SW.ret ?_ | (refine allF_i fun b hb => ?_; replace hD := And.intro hb hD; clear hb; try simp only [fresh_cons, fresh_nil, and_true, ne_eq, neF] at hD) | simp only [appK, appOsK]); try simp only [go_sem, hD]) | (refine And.intro (by omega) ?_) | (refine ifI (fun hc => ?_) (fun hc => ?_) <;> first | (exfalso; omega) | skip) | ((first | apply hK | ((iterate 1 (clear hK K)); apply hK) | ((iterate 2 (clear hK K)); apply hK) | ((iterate 3 (clear hK K)); apply hK) | ((iterate 4 (clear hK K)); apply hK) | ((iterate 5 (clear hK K)); apply hK)); clear hK K)
    refine retQ_le ((St.le_freezeP (i := 2) (b := db) (off := 0) (n := 2) rfl (by simp [find_cons, hD]; rfl) (by exact Nat.le_refl 2)).trans (St.le_pick [(b, .svs [.os p 0 n 1, .os q 0 n 1]), (p, .svs (rowL n s)), (q, .svs (rowL n t))] ?_ ?_)) ?_
    · simp [del_cons, hD]
    · simp [hD]
    · simp only [resL_tmp, resL_cellE, resC_ok, resL_nil, tupOf, getN, go_sem, hD]
      exact ⟨b, p, q, rfl, rfl⟩
end Go.Proofs.YtmcmphmhjikgkaaGreatDoor
