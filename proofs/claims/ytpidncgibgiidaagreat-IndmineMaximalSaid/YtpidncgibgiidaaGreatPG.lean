import Derived.Test.YtpidncgibgiidaaGreatPF
set_option linter.unusedSimpArgs false
set_option linter.unusedVariables false
set_option linter.unusedSectionVars false
namespace Go.Ab.A15
open Go Go.Ab Go.Ab.A34 Go.Ab.A01
theorem nd_len : ∀ {C A : List Dp}, C.Nodup → (∀ x ∈ C, x ∈ A) → C.length ≤ A.length
  | [], A, _, _ => Nat.zero_le _
  | c :: C, A, h, hs => by
    obtain ⟨h1, h2⟩ := List.nodup_cons.1 h
    have hc := hs c List.mem_cons_self
    have := nd_len (A := A.erase c) h2 fun x hx => (List.mem_erase_of_ne (fun e => h1 (by rw [← e]; exact hx))).2 (hs x (List.mem_cons_of_mem _ hx))
    rw [List.length_erase_of_mem hc] at this
    have := List.length_pos_of_mem hc
    rw [List.length_cons]
    omega
structure OkA (A : List Dp) : Prop where
  cl : ∀ d ∈ A, ∀ q, q < d.l.length → 1 < d.l.length → woD d q ∈ A
  lr : ∀ d ∈ A, d.l.length = d.r.length
  l6 : ∀ d ∈ A, 0 < d.l.length ∧ d.l.length ≤ 10
  n : A.length ≤ 567
  nd : A.Nodup
theorem any_mem (C : List Dp) (d : Dp) : (C.any fun y => decide (y = d)) = decide (d ∈ C) := by
  rw [Bool.eq_iff_iff, List.any_eq_true, decide_eq_true_eq]
  constructor
  · rintro ⟨y, hy, e⟩
    rw [decide_eq_true_eq] at e
    exact e ▸ hy
  · intro h
    exact ⟨d, h, by simp⟩
end Go.Ab.A15
namespace Go.Proofs.YtpidncgibgiidaaGreat
open Go Go.Ab Go.Ab.A34 Go.Ab.A15 Go.Ab.A01
variable [Gl] [Tabs]
set_option maxHeartbeats 4000000 in
set_option maxRecDepth 20000 in
theorem cl_p (db : List Tb) (A C0 : List Dp) (ia cb0 : Nat) (hA : OkA A) (hc0 : Cls A C0 ia 0) (hi : ia < C0.length) :
    Ab.SW Tryz.prog 123 (blk 2 Tryz.f4) (nrm fun S => ∃ C cb, Cls A C (ia + 1) 0 ∧ C0.length ≤ C.length ∧ S.le ⟨[(3, .fp [TL db]), (9, .os cb 0 C.length 4), (10, I64 ia)], [(cb, .svs (dCs C))]⟩)
      ⟨[(3, .fp [TL db]), (9, .os cb0 0 C0.length 4), (10, I64 ia), (73, I64 (C0.getD ia d0).l.length), (74, I64 (0 : Nat))], [(cb0, .svs (dCs C0))]⟩ := by
  conv => arg 3; whnf
  refine SW.block ?_
  obtain ⟨v, hv⟩ : ∃ v, v = C0.getD ia d0 := ⟨_, rfl⟩
  rw [← hv]
  have hvA : v ∈ A := by rw [hv]; exact hc0.sub _ (getD_mem' d0 hi)
  obtain ⟨I, hI⟩ : ∃ I : Nat → St → Prop, ∀ n S, I n S ↔ (∃ (p : Nat) (C : List Dp) (cb : Nat), n = v.l.length - p ∧ p ≤ v.l.length ∧ Cls A C ia p ∧ C0.length ≤ C.length ∧ C.getD ia d0 = v ∧
    S = ⟨[(3, .fp [TL db]), (9, .os cb 0 C.length 4), (10, I64 ia), (73, I64 v.l.length), (74, I64 p)], [(cb, .svs (dCs C))]⟩) := ⟨fun n S => _, fun _ _ => Iff.rfl⟩
  refine SW.loop' I v.l.length ((hI _ _).2 ⟨0, C0, cb0, rfl, Nat.zero_le _, hc0, Nat.le_refl _, hv.symm, rfl⟩) (by repeat' (first | exact rfl | exact trivial | constructor)) ?_
  intro n S hIn
  obtain ⟨p, C, cb, rfl, hpl, hC, hCl, hCv, rfl⟩ := (hI _ _).1 hIn
  clear hIn hc0
  have hCn := nd_len hC.nd hC.sub
  have hA5 := hA.n
  have hvl := hA.l6 _ hvA
  have hvr := hA.lr _ hvA
  have hi2 : ia < C.length := by omega
  by_cases hlt : p < v.l.length
  · have hli : ((p : Nat) : Int) < (((v.l.length) : Nat) : Int) := by omega
    have w1 : IntKind.i64.wrap ((p : Int) + 1) = ((p + 1 : Nat) : Int) := by rw [i64_wrap (by omega) (by omega)]; omega
    have hst := hC.step hA.cl hA.lr hi2 (by rw [hCv]; exact hlt)
    rw [hCv] at hst
    obtain ⟨g1, g2, g3, g4⟩ := dCs_g4 C ia hi2
    rw [hCv] at g1 g2 g3 g4
    have cw := wo_r v p hlt (by omega) (by omega) (by omega)
    have k1 : (0 : Int) ≤ ((ia : Nat) : Int) := by omega
    have k2 : ((ia : Nat) : Int) < ((C.length : Nat) : Int) := by omega
    have k3 : ((ia : Nat) : Int).toNat = ia := Int.toNat_natCast _
    have hcc : (dCs C).length = C.length * 4 := dCs_len C
    have hws : OkS (woD v p) := by
      constructor
      · show (woL v.l p).length ≤ _
        rw [woL_erase, er_len hlt]
        omega
      · show (woL v.r p).length ≤ _
        rw [woL_erase, er_len (by omega)]
        omega
    have hco := cont_o 21 [.fp (dC (woD v p))] (fun y => decide (y = woD v p)) C cb (by omega) (fun y hy => eqc_1 y (woD v p) ⟨by have := hA.l6 _ (hC.sub y hy); omega, by have := hA.l6 _ (hC.sub y hy); have := hA.lr _ (hC.sub y hy); omega⟩ hws)
    rw [any_mem] at hco
    have hsn := dCs_snoc C (woD v p)
    unfold addW at hst
    generalize woD v p = w at *
    have ie : ((p : Nat) : Int).toNat = p := Int.toNat_natCast _
    have i0 : (0 : Int) ≤ ((p : Nat) : Int) := by omega
    have hcl2 : (C ++ [w]).length = C.length + 1 := by simp
    have hget : (C ++ [w]).getD ia d0 = C.getD ia d0 := by rw [List.getD_eq_getElem?_getD, List.getD_eq_getElem?_getD, List.getElem?_append_left hi2]
    have hacc : Acc 4 (.os cb 0 C.length 4) [(cb, .svs (dCs C))] [] C.length (dCs C) := .inr ⟨cb, _, by simp [fresh_nil], rfl, (dCs_len _).symm, rfl, rfl, rfl⟩
    have hm1 : (C.length + 1) * 80 ≤ 140737488355328 := by omega
    have hm2 : C.length + 1 ≤ 140737488355328 := by omega
    by_cases h0 : 0 < w.l.length
    · have hz : (0 : Int) < ((w.l.length : Nat) : Int) := by omega
      by_cases hm : w ∈ C
      · rw [if_neg (fun x => x.2 hm)] at hst
        rw [decide_eq_true hm] at hco
        clear hvl hvr hvA
        obtain ⟨v1, v2, v3, v4⟩ := v
        obtain ⟨u1, u2, u3, u4⟩ := w
        simp only at g1 g2 g3 g4 hz hli hlt
        have hD : (0 : Nat) = 0 := rfl
        repeat' first | (refine SW.seq_k fun K hK => ?_) | ((first | refine SW.region ?_ | refine SW.cond ?_ | refine SW.skip ?_ | simp only [appK, appOsK]); try simp only [go_sem, hD, hli, ie, i0, w1, k1, k2, k3, g1, g2, g3, g4, hcc, hz, true_implies]) | (apply hK; clear hK K)
        refine SW.block ?_
        repeat' first | ((refine Ab.SW.le (St.le_freezeP (i := 12) (n := 4) rfl (by rw [find_cons, if_pos rfl]) (by exact Nat.le_refl 4)) ?_); (rw [del_head]); (simp only [getN, Blk.get])) | ((with_reducible refine Call.mono hco ?_); (intro rr h' hx); (obtain ⟨rfl, rfl⟩ := hx); (try simp only [go_sem, hD])) | (with_reducible refine And.intro (by omega) ?_) | (refine SW.seq_k fun K hK => ?_) | ((first | refine SW.region ?_ | refine SW.cond ?_ | refine SW.skip ?_ | refine Call.of_pure (cw) ?_ | (refine allF_i fun b hb => ?_; replace hD := And.intro hb hD; clear hb; try simp only [fresh_cons, fresh_nil, and_true, ne_eq, neF] at hD)); try simp only [go_sem, hD, hli, ie, i0, w1, k1, k2, k3, g1, g2, g3, g4, hcc, hz, true_implies]) | (apply hK; clear hK K)
        refine Rnd.sub (v2.length - (p + 1)) (by omega) ((hI _ _).2 ⟨p + 1, C, cb, rfl, by show p + 1 ≤ v2.length; omega, hst, hCl, hCv, rfl⟩) (by repeat' (first | exact rfl | exact trivial | constructor))
      · rw [if_pos ⟨h0, hm⟩] at hst
        rw [decide_eq_false hm] at hco
        clear hvl hvr hvA
        obtain ⟨v1, v2, v3, v4⟩ := v
        obtain ⟨u1, u2, u3, u4⟩ := w
        simp only at g1 g2 g3 g4 hz hli hlt
        have hD : (0 : Nat) = 0 := rfl
        repeat' first | (refine SW.seq_k fun K hK => ?_) | ((first | refine SW.region ?_ | refine SW.cond ?_ | refine SW.skip ?_ | simp only [appK, appOsK]); try simp only [go_sem, hD, hli, ie, i0, w1, k1, k2, k3, g1, g2, g3, g4, hcc, hz, true_implies]) | (apply hK; clear hK K)
        refine SW.block ?_
        repeat' first | ((refine Ab.SW.le (St.le_freezeP (i := 12) (n := 4) rfl (by rw [find_cons, if_pos rfl]) (by exact Nat.le_refl 4)) ?_); (rw [del_head]); (simp only [getN, Blk.get])) | ((with_reducible refine Call.mono hco ?_); (intro rr h' hx); (obtain ⟨rfl, rfl⟩ := hx); (try simp only [go_sem, hD])) | (with_reducible refine And.intro (by omega) ?_) | (refine SW.seq_k fun K hK => ?_) | ((first | refine SW.region ?_ | refine SW.cond ?_ | refine Call.of_pure (cw) ?_ | (refine allF_i fun b hb => ?_; replace hD := And.intro hb hD; clear hb; try simp only [fresh_cons, fresh_nil, and_true, ne_eq, neF] at hD) | simp only [appK, appOsK]); try simp only [go_sem, hD, hli, ie, i0, w1, k1, k2, k3, g1, g2, g3, g4, hcc, hz, true_implies]) | (apply hK; clear hK K)
        refine Rnd.le (St.le_pick [(b, .svs (dCs C ++ [Str u1, IL u2, Str u3, IL u4]))] (fun x hx => by rw [List.mem_singleton.1 hx]; exact List.mem_cons_of_mem _ List.mem_cons_self) (by simp)) ?_
        refine Rnd.sub (v2.length - (p + 1)) (by omega) ((hI _ _).2 ⟨p + 1, C ++ [⟨u1, u2, u3, u4⟩], b, rfl, by show p + 1 ≤ v2.length; omega, hst, by omega, by rw [hget, hCv], by rw [hcl2, hsn]⟩) (by repeat' (first | exact rfl | exact trivial | constructor))
    · have hz : ¬ (0 : Int) < ((w.l.length : Nat) : Int) := by omega
      rw [if_neg (fun x => h0 x.1)] at hst
      clear hvl hvr hvA hco
      obtain ⟨v1, v2, v3, v4⟩ := v
      obtain ⟨u1, u2, u3, u4⟩ := w
      simp only at g1 g2 g3 g4 hz hli hlt
      have hD : (0 : Nat) = 0 := rfl
      repeat' first | (refine SW.seq_k fun K hK => ?_) | ((first | refine SW.region ?_ | refine SW.cond ?_ | refine SW.skip ?_ | simp only [appK, appOsK]); try simp only [go_sem, hD, hli, ie, i0, w1, k1, k2, k3, g1, g2, g3, g4, hcc, hz, true_implies]) | (apply hK; clear hK K)
      refine SW.block ?_
      repeat' first | ((refine Ab.SW.le (St.le_freezeP (i := 12) (n := 4) rfl (by rw [find_cons, if_pos rfl]) (by exact Nat.le_refl 4)) ?_); (rw [del_head]); (simp only [getN, Blk.get])) | (with_reducible refine And.intro (by omega) ?_) | (refine SW.seq_k fun K hK => ?_) | ((first | refine SW.region ?_ | refine SW.cond ?_ | refine SW.skip ?_ | refine Call.of_pure (cw) ?_ | (refine allF_i fun b hb => ?_; replace hD := And.intro hb hD; clear hb; try simp only [fresh_cons, fresh_nil, and_true, ne_eq, neF] at hD)); try simp only [go_sem, hD, hli, ie, i0, w1, k1, k2, k3, g1, g2, g3, g4, hcc, hz, true_implies]) | (apply hK; clear hK K)
      refine Rnd.sub (v2.length - (p + 1)) (by omega) ((hI _ _).2 ⟨p + 1, C, cb, rfl, by show p + 1 ≤ v2.length; omega, hst, hCl, hCv, rfl⟩) (by repeat' (first | exact rfl | exact trivial | constructor))
  · have hli : ¬ ((p : Nat) : Int) < (((v.l.length) : Nat) : Int) := by omega
    have hnx := hC.next hi2 (by rw [hCv]; omega)
    obtain ⟨v1, v2, v3, v4⟩ := v
    have hD : (0 : Nat) = 0 := rfl
    repeat' first | (refine SW.seq_k fun K hK => ?_) | ((first | refine SW.region ?_ | refine SW.cond ?_ | refine SW.exit ?_); try simp only [go_sem, hD, hli, true_implies]) | (apply hK; clear hK K)
    exact ⟨C, cb, hnx, hCl, St.le_sub (by repeat' (first | exact rfl | exact trivial | constructor))⟩
end Go.Proofs.YtpidncgibgiidaaGreat
