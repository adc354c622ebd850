/- The contract of the second loop inside (block 6): the prices move. -/
import Derived.Test.YtockdinjmnkdoaaR6
set_option linter.unusedSimpArgs false
set_option linter.unusedVariables false
namespace Go.Proofs.Ytockdinjmnkdoaa
open Go Go.Ab Go.Ab.A40

set_option maxHeartbeats 8000000 in
theorem asg_L4 {m : List (List Int)} {w i pos cnt : Nat} {u v row1 best frm best' frm' : List Int} {done : List Bool} {c0 next least : Int} {rk : Nat → Nat} {B b1 b2 b3 bb bf bd : Nat} (A : AInv m w i u v row1 best frm done pos c0 cnt rk) (h0 : 0 ≤ row1.getD pos 0)
    (L : L3b m w u v row1 best frm (done.set pos true) w best' frm') (N : L3n (done.set pos true) best' w next least)
    (hn : Dj B b1 b2 b3 bb bf bd) : SW Try.prog 197 (blk 6 Try.f49) (nrm fun S => ∃ (u' v' best2 : List Int), L4 w u v best' row1 (done.set pos true) least (w + 1) u' v' best2 ∧ S.le ⟨[(12, I64 next), (0, .op B 0), (1, I64 i), (2, I64 w), (6, .os bb 0 w 1), (7, .os bf 0 w 1), (8, .os bd 0 (w + 1) 1)], [(bd, .bools (done.set pos true)), (bf, .ints .i64 frm'), (bb, .ints .i64 best2), (B, .svs [mat .i64 m, .os b1 0 m.length 1, .os b2 0 (w + 1) 1, .os b3 0 (w + 1) 1]), (b1, .ints .i64 u'), (b2, .ints .i64 v'), (b3, .ints .i64 row1)]⟩)
    ⟨[(121, I64 0), (120, I64 ((w : Int) + 1)), (12, I64 next), (13, I64 least), (10, I64 pos), (0, .op B 0), (1, I64 i), (2, I64 w), (6, .os bb 0 w 1), (7, .os bf 0 w 1), (8, .os bd 0 (w + 1) 1)], [(bd, .bools (done.set pos true)), (bf, .ints .i64 frm'), (bb, .ints .i64 best'), (B, .svs [mat .i64 m, .os b1 0 m.length 1, .os b2 0 (w + 1) 1, .os b3 0 (w + 1) 1]), (b1, .ints .i64 u), (b2, .ints .i64 v), (b3, .ints .i64 row1)]⟩ := by
  unfold Dj at hn
  conv =>
    arg 3
    whnf
  refine SW.block ?_
  have hw := A.hw
  have hw2 := A.hw2
  have hi := A.hi
  have hlu := A.lu
  have hlv := A.lv
  have hlr := A.lr
  have hlb := A.lb
  have hlf := A.lf
  have hld := A.ld
  obtain ⟨hpw, hpd⟩ := A.hpos
  have hrlt := A.row_lt hpw
  have hlb' := L.lb
  have hlf' := L.lf
  obtain ⟨hle1, hle2, hbb⟩ := A.least_b h0 L N
  have hds := A.d_set
  have hdn : ∀ k, k ≤ w → (done.set pos true).getD k false = true → 0 ≤ row1.getD k 0 := fun k hk hd => by
    rcases (hds k).1 hd with e | e
    · rw [e]; exact h0
    · exact A.dn k hk e
  have hDw : (done.set pos true).getD w false = true := by
    rw [hds]
    by_cases hd : done.getD w false = true
    · exact .inr hd
    · exact .inl (A.start (by simpa using hd)).1.symm
  have hpl : pos < done.length := by omega
  clear hds
  have ew : IntKind.i64.wrap ((w : Int) + 1) = (w : Int) + 1 := i64_wrap (by omega) (by omega)
  have hls : (done.set pos true).length = w + 1 := by simpa using hld
  generalize hD : done.set pos true = D at *
  obtain ⟨I4, hI4⟩ : ∃ I : Nat → St → Prop, ∀ n S, I n S ↔ (∃ (j : Nat) (u' v' best2 : List Int), n = w + 1 - j ∧ j ≤ w + 1 ∧ L4 w u v best' row1 D least j u' v' best2 ∧ S = ⟨[(121, I64 j), (120, I64 ((w : Int) + 1)), (12, I64 next), (13, I64 least), (10, I64 pos), (0, .op B 0), (1, I64 i), (2, I64 w), (6, .os bb 0 w 1), (7, .os bf 0 w 1), (8, .os bd 0 (w + 1) 1)], [(bd, .bools D), (bf, .ints .i64 frm'), (bb, .ints .i64 best2), (B, .svs [mat .i64 m, .os b1 0 m.length 1, .os b2 0 (w + 1) 1, .os b3 0 (w + 1) 1]), (b1, .ints .i64 u'), (b2, .ints .i64 v'), (b3, .ints .i64 row1)]⟩) := ⟨fun n S => _, fun _ _ => Iff.rfl⟩
  refine SW.loop' I4 (w + 1) ((hI4 _ _).2 ⟨0, u, v, best', rfl, Nat.zero_le _, L4.zero, rfl⟩) (by repeat' (first | exact rfl | exact trivial | exact int_eq (by omega) | exact int_eq (by (rw [i64_wrap] <;> omega)) | constructor)) ?_
  intro n S hIn
  obtain ⟨j, u', v', best2, rfl, hj, X, rfl⟩ := (hI4 _ _).1 hIn
  clear hIn
  have hxu := X.lu
  have hxv := X.lv
  have hxb := X.lb
  repeat' first
    | (refine SW.seq_k fun K hK => ?_)
    | (refine SW.block ?_)
    | (refine SW.region ?_; simp only [go_sem, ↓reduceIte, reduceCtorEq, Nat.reduceAdd, Nat.reduceMul, Nat.reduceSub, Nat.reduceLT, Nat.reduceLeDiff, Nat.reduceEqDiff, Nat.reduceBEq, Nat.reduceBneDiff, Int.reduceToNat, Int.toNat_natCast, hn,ew])
    | (refine SW.regionD (Checked.mixed Try.checked) (by kernel_rfl) ?_; simp only [go_sem, ↓reduceIte, reduceCtorEq, Nat.reduceAdd, Nat.reduceMul, Nat.reduceSub, Nat.reduceLT, Nat.reduceLeDiff, Nat.reduceEqDiff, Nat.reduceBEq, Nat.reduceBneDiff, Int.reduceToNat, Int.toNat_natCast, hn,ew])
    | (refine SW.cond ?_; simp only [go_sem, ↓reduceIte, reduceCtorEq, Nat.reduceAdd, Nat.reduceMul, Nat.reduceSub, Nat.reduceLT, Nat.reduceLeDiff, Nat.reduceEqDiff, Nat.reduceBEq, Nat.reduceBneDiff, Int.reduceToNat, Int.toNat_natCast, hn,ew])
    | (refine SW.skip ?_; try simp only [go_sem, ↓reduceIte, reduceCtorEq, Nat.reduceAdd, Nat.reduceMul, Nat.reduceSub, Nat.reduceLT, Nat.reduceLeDiff, Nat.reduceEqDiff, Nat.reduceBEq, Nat.reduceBneDiff, Int.reduceToNat, Int.toNat_natCast, hn,ew])
    | (refine SW.exit ?_; try simp only [go_sem, ↓reduceIte, reduceCtorEq, Nat.reduceAdd, Nat.reduceMul, Nat.reduceSub, Nat.reduceLT, Nat.reduceLeDiff, Nat.reduceEqDiff, Nat.reduceBEq, Nat.reduceBneDiff, Int.reduceToNat, Int.toNat_natCast, hn,ew])
    | (refine SW.ret ?_; try simp only [go_sem, ↓reduceIte, reduceCtorEq, Nat.reduceAdd, Nat.reduceMul, Nat.reduceSub, Nat.reduceLT, Nat.reduceLeDiff, Nat.reduceEqDiff, Nat.reduceBEq, Nat.reduceBneDiff, Int.reduceToNat, Int.toNat_natCast, hn,ew])
    | (refine And.intro (by omega) ?_)
    | (first | (apply hK; clear hK K) | (clear hK K; apply hK; clear hK K) | (clear hK K; clear hK K; apply hK; clear hK K) | (clear hK K; clear hK K; clear hK K; apply hK; clear hK K) | (clear hK K; clear hK K; clear hK K; clear hK K; apply hK; clear hK K) | (clear hK K; clear hK K; clear hK K; clear hK K; clear hK K; apply hK; clear hK K))
  refine ifI (fun hc => ?_) (fun hc => ?_)
  · have hjw : j ≤ w := by omega
    clear hc
    repeat' first
      | (refine SW.seq_k fun K hK => ?_)
      | (refine SW.block ?_)
      | (refine SW.region ?_; simp only [go_sem, ↓reduceIte, reduceCtorEq, Nat.reduceAdd, Nat.reduceMul, Nat.reduceSub, Nat.reduceLT, Nat.reduceLeDiff, Nat.reduceEqDiff, Nat.reduceBEq, Nat.reduceBneDiff, Int.reduceToNat, Int.toNat_natCast, hn,ew])
      | (refine SW.regionD (Checked.mixed Try.checked) (by kernel_rfl) ?_; simp only [go_sem, ↓reduceIte, reduceCtorEq, Nat.reduceAdd, Nat.reduceMul, Nat.reduceSub, Nat.reduceLT, Nat.reduceLeDiff, Nat.reduceEqDiff, Nat.reduceBEq, Nat.reduceBneDiff, Int.reduceToNat, Int.toNat_natCast, hn,ew])
      | (refine SW.cond ?_; simp only [go_sem, ↓reduceIte, reduceCtorEq, Nat.reduceAdd, Nat.reduceMul, Nat.reduceSub, Nat.reduceLT, Nat.reduceLeDiff, Nat.reduceEqDiff, Nat.reduceBEq, Nat.reduceBneDiff, Int.reduceToNat, Int.toNat_natCast, hn,ew])
      | (refine SW.skip ?_; try simp only [go_sem, ↓reduceIte, reduceCtorEq, Nat.reduceAdd, Nat.reduceMul, Nat.reduceSub, Nat.reduceLT, Nat.reduceLeDiff, Nat.reduceEqDiff, Nat.reduceBEq, Nat.reduceBneDiff, Int.reduceToNat, Int.toNat_natCast, hn,ew])
      | (refine SW.exit ?_; try simp only [go_sem, ↓reduceIte, reduceCtorEq, Nat.reduceAdd, Nat.reduceMul, Nat.reduceSub, Nat.reduceLT, Nat.reduceLeDiff, Nat.reduceEqDiff, Nat.reduceBEq, Nat.reduceBneDiff, Int.reduceToNat, Int.toNat_natCast, hn,ew])
      | (refine SW.ret ?_; try simp only [go_sem, ↓reduceIte, reduceCtorEq, Nat.reduceAdd, Nat.reduceMul, Nat.reduceSub, Nat.reduceLT, Nat.reduceLeDiff, Nat.reduceEqDiff, Nat.reduceBEq, Nat.reduceBneDiff, Int.reduceToNat, Int.toNat_natCast, hn,ew])
      | (refine And.intro (by omega) ?_)
      | (first | (apply hK; clear hK K) | (clear hK K; apply hK; clear hK K) | (clear hK K; clear hK K; apply hK; clear hK K) | (clear hK K; clear hK K; clear hK K; apply hK; clear hK K) | (clear hK K; clear hK K; clear hK K; clear hK K; apply hK; clear hK K) | (clear hK K; clear hK K; clear hK K; clear hK K; clear hK K; apply hK; clear hK K))
    refine ifI (fun hc => ?_) (fun hc => ?_)
    · obtain ⟨q, hq⟩ : ∃ q : Nat, row1.getD j 0 = q := ⟨(row1.getD j 0).toNat, by have := hdn j hjw hc; omega⟩
      have hql := A.row_q hjw hq
      have hinj := A.inj_lt hjw hq
      have e3 := wadd (X.u_eq hinj hq) (A.ub q) hle1 hle2
      have e4 := wsub X.v_eq (A.vb' hjw) hle1 hle2
      have X2 := L4.yes X hinj hc hq (by rw [hlu]; exact hql) (by rw [hlv]; exact Nat.lt_succ_of_le hjw)
      have hqu : q < u'.length := by rw [hxu, hlu]; exact hql
      have hjr : j < row1.length := by rw [hlr]; exact Nat.lt_succ_of_le hjw
      have hjv : j < v'.length := by rw [hxv, hlv]; exact Nat.lt_succ_of_le hjw
      clear hinj hbb hdn hrlt h0 hle1 hle2
      repeat' first
        | (refine SW.seq_k fun K hK => ?_)
        | (refine SW.block ?_)
        | (refine SW.region ?_; simp only [go_sem, ↓reduceIte, reduceCtorEq, Nat.reduceAdd, Nat.reduceMul, Nat.reduceSub, Nat.reduceLT, Nat.reduceLeDiff, Nat.reduceEqDiff, Nat.reduceBEq, Nat.reduceBneDiff, Int.reduceToNat, Int.toNat_natCast, hn,hq,e3,e4])
        | (refine SW.regionD (Checked.mixed Try.checked) (by kernel_rfl) ?_; simp only [go_sem, ↓reduceIte, reduceCtorEq, Nat.reduceAdd, Nat.reduceMul, Nat.reduceSub, Nat.reduceLT, Nat.reduceLeDiff, Nat.reduceEqDiff, Nat.reduceBEq, Nat.reduceBneDiff, Int.reduceToNat, Int.toNat_natCast, hn,hq,e3,e4])
        | (refine SW.cond ?_; simp only [go_sem, ↓reduceIte, reduceCtorEq, Nat.reduceAdd, Nat.reduceMul, Nat.reduceSub, Nat.reduceLT, Nat.reduceLeDiff, Nat.reduceEqDiff, Nat.reduceBEq, Nat.reduceBneDiff, Int.reduceToNat, Int.toNat_natCast, hn,hq,e3,e4])
        | (refine SW.skip ?_; try simp only [go_sem, ↓reduceIte, reduceCtorEq, Nat.reduceAdd, Nat.reduceMul, Nat.reduceSub, Nat.reduceLT, Nat.reduceLeDiff, Nat.reduceEqDiff, Nat.reduceBEq, Nat.reduceBneDiff, Int.reduceToNat, Int.toNat_natCast, hn,hq,e3,e4])
        | (refine SW.exit ?_; try simp only [go_sem, ↓reduceIte, reduceCtorEq, Nat.reduceAdd, Nat.reduceMul, Nat.reduceSub, Nat.reduceLT, Nat.reduceLeDiff, Nat.reduceEqDiff, Nat.reduceBEq, Nat.reduceBneDiff, Int.reduceToNat, Int.toNat_natCast, hn,hq,e3,e4])
        | (refine SW.ret ?_; try simp only [go_sem, ↓reduceIte, reduceCtorEq, Nat.reduceAdd, Nat.reduceMul, Nat.reduceSub, Nat.reduceLT, Nat.reduceLeDiff, Nat.reduceEqDiff, Nat.reduceBEq, Nat.reduceBneDiff, Int.reduceToNat, Int.toNat_natCast, hn,hq,e3,e4])
        | (refine And.intro (by omega) ?_)
        | (refine ifI (fun hc => ?_) (fun hc => ?_) <;> first | (exfalso; omega) | skip)
        | (first | (apply hK; clear hK K) | (clear hK K; apply hK; clear hK K) | (clear hK K; clear hK K; apply hK; clear hK K) | (clear hK K; clear hK K; clear hK K; apply hK; clear hK K) | (clear hK K; clear hK K; clear hK K; clear hK K; apply hK; clear hK K) | (clear hK K; clear hK K; clear hK K; clear hK K; clear hK K; apply hK; clear hK K))
      refine Rnd.sub (w + 1 - (j + 1)) (by omega) ((hI4 _ _).2 ⟨j + 1, _, _, _, rfl, by omega, X2, rfl⟩) (by repeat' (first | exact rfl | exact trivial | exact int_eq (by omega) | exact int_eq (by (rw [i64_wrap] <;> omega)) | constructor))
    · have hd : D.getD j false = false := by simpa using hc
      clear hc
      have hjl : j < w := by
        refine Classical.byContradiction fun h => ?_
        have : j = w := by omega
        rw [this, hDw] at hd
        cases hd
      have e5 := wsub' (X.b_eq hjl) (hbb j hjl hd) hle1 hle2
      have X2 := L4.no X hd (by rw [hlb']; exact hjl)
      have hjb : j < best2.length := by rw [hxb, hlb']; exact hjl
      clear hbb hdn hrlt h0 hle1 hle2
      repeat' first
        | (refine SW.seq_k fun K hK => ?_)
        | (refine SW.block ?_)
        | (refine SW.region ?_; simp only [go_sem, ↓reduceIte, reduceCtorEq, Nat.reduceAdd, Nat.reduceMul, Nat.reduceSub, Nat.reduceLT, Nat.reduceLeDiff, Nat.reduceEqDiff, Nat.reduceBEq, Nat.reduceBneDiff, Int.reduceToNat, Int.toNat_natCast, hn,e5])
        | (refine SW.regionD (Checked.mixed Try.checked) (by kernel_rfl) ?_; simp only [go_sem, ↓reduceIte, reduceCtorEq, Nat.reduceAdd, Nat.reduceMul, Nat.reduceSub, Nat.reduceLT, Nat.reduceLeDiff, Nat.reduceEqDiff, Nat.reduceBEq, Nat.reduceBneDiff, Int.reduceToNat, Int.toNat_natCast, hn,e5])
        | (refine SW.cond ?_; simp only [go_sem, ↓reduceIte, reduceCtorEq, Nat.reduceAdd, Nat.reduceMul, Nat.reduceSub, Nat.reduceLT, Nat.reduceLeDiff, Nat.reduceEqDiff, Nat.reduceBEq, Nat.reduceBneDiff, Int.reduceToNat, Int.toNat_natCast, hn,e5])
        | (refine SW.skip ?_; try simp only [go_sem, ↓reduceIte, reduceCtorEq, Nat.reduceAdd, Nat.reduceMul, Nat.reduceSub, Nat.reduceLT, Nat.reduceLeDiff, Nat.reduceEqDiff, Nat.reduceBEq, Nat.reduceBneDiff, Int.reduceToNat, Int.toNat_natCast, hn,e5])
        | (refine SW.exit ?_; try simp only [go_sem, ↓reduceIte, reduceCtorEq, Nat.reduceAdd, Nat.reduceMul, Nat.reduceSub, Nat.reduceLT, Nat.reduceLeDiff, Nat.reduceEqDiff, Nat.reduceBEq, Nat.reduceBneDiff, Int.reduceToNat, Int.toNat_natCast, hn,e5])
        | (refine SW.ret ?_; try simp only [go_sem, ↓reduceIte, reduceCtorEq, Nat.reduceAdd, Nat.reduceMul, Nat.reduceSub, Nat.reduceLT, Nat.reduceLeDiff, Nat.reduceEqDiff, Nat.reduceBEq, Nat.reduceBneDiff, Int.reduceToNat, Int.toNat_natCast, hn,e5])
        | (refine And.intro (by omega) ?_)
        | (first | (apply hK; clear hK K) | (clear hK K; apply hK; clear hK K) | (clear hK K; clear hK K; apply hK; clear hK K) | (clear hK K; clear hK K; clear hK K; apply hK; clear hK K) | (clear hK K; clear hK K; clear hK K; clear hK K; apply hK; clear hK K) | (clear hK K; clear hK K; clear hK K; clear hK K; clear hK K; apply hK; clear hK K))
      refine ifI (fun hc => ?_) (fun hc => ?_)
      · repeat' first
          | (refine SW.seq_k fun K hK => ?_)
          | (refine SW.block ?_)
          | (refine SW.region ?_; simp only [go_sem, ↓reduceIte, reduceCtorEq, Nat.reduceAdd, Nat.reduceMul, Nat.reduceSub, Nat.reduceLT, Nat.reduceLeDiff, Nat.reduceEqDiff, Nat.reduceBEq, Nat.reduceBneDiff, Int.reduceToNat, Int.toNat_natCast, hn,e5])
          | (refine SW.regionD (Checked.mixed Try.checked) (by kernel_rfl) ?_; simp only [go_sem, ↓reduceIte, reduceCtorEq, Nat.reduceAdd, Nat.reduceMul, Nat.reduceSub, Nat.reduceLT, Nat.reduceLeDiff, Nat.reduceEqDiff, Nat.reduceBEq, Nat.reduceBneDiff, Int.reduceToNat, Int.toNat_natCast, hn,e5])
          | (refine SW.cond ?_; simp only [go_sem, ↓reduceIte, reduceCtorEq, Nat.reduceAdd, Nat.reduceMul, Nat.reduceSub, Nat.reduceLT, Nat.reduceLeDiff, Nat.reduceEqDiff, Nat.reduceBEq, Nat.reduceBneDiff, Int.reduceToNat, Int.toNat_natCast, hn,e5])
          | (refine SW.skip ?_; try simp only [go_sem, ↓reduceIte, reduceCtorEq, Nat.reduceAdd, Nat.reduceMul, Nat.reduceSub, Nat.reduceLT, Nat.reduceLeDiff, Nat.reduceEqDiff, Nat.reduceBEq, Nat.reduceBneDiff, Int.reduceToNat, Int.toNat_natCast, hn,e5])
          | (refine SW.exit ?_; try simp only [go_sem, ↓reduceIte, reduceCtorEq, Nat.reduceAdd, Nat.reduceMul, Nat.reduceSub, Nat.reduceLT, Nat.reduceLeDiff, Nat.reduceEqDiff, Nat.reduceBEq, Nat.reduceBneDiff, Int.reduceToNat, Int.toNat_natCast, hn,e5])
          | (refine SW.ret ?_; try simp only [go_sem, ↓reduceIte, reduceCtorEq, Nat.reduceAdd, Nat.reduceMul, Nat.reduceSub, Nat.reduceLT, Nat.reduceLeDiff, Nat.reduceEqDiff, Nat.reduceBEq, Nat.reduceBneDiff, Int.reduceToNat, Int.toNat_natCast, hn,e5])
          | (refine And.intro (by omega) ?_)
          | (refine ifI (fun hc => ?_) (fun hc => ?_) <;> first | (exfalso; omega) | skip)
          | (first | (apply hK; clear hK K) | (clear hK K; apply hK; clear hK K) | (clear hK K; clear hK K; apply hK; clear hK K) | (clear hK K; clear hK K; clear hK K; apply hK; clear hK K) | (clear hK K; clear hK K; clear hK K; clear hK K; apply hK; clear hK K) | (clear hK K; clear hK K; clear hK K; clear hK K; clear hK K; apply hK; clear hK K))
        refine Rnd.sub (w + 1 - (j + 1)) (by omega) ((hI4 _ _).2 ⟨j + 1, _, _, _, rfl, by omega, X2, rfl⟩) (by repeat' (first | exact rfl | exact trivial | exact int_eq (by omega) | exact int_eq (by (rw [i64_wrap] <;> omega)) | constructor))
      · exact absurd (Int.ofNat_lt.2 hjl) hc
  · have hjw : j = w + 1 := by omega
    rw [hjw] at X
    refine SW.exit ?_; try simp only [go_sem, ↓reduceIte, reduceCtorEq, Nat.reduceAdd, Nat.reduceMul, Nat.reduceSub, Nat.reduceLT, Nat.reduceLeDiff, Nat.reduceEqDiff, Nat.reduceBEq, Nat.reduceBneDiff, Int.reduceToNat, Int.toNat_natCast, hn,ew]
    subst hD
    refine nrm_i ?_
    exact ⟨u', v', best2, X, St.le_sub (by repeat' (first | exact rfl | exact trivial | exact int_eq (by omega) | exact int_eq (by (rw [i64_wrap] <;> omega)) | constructor))⟩
end Go.Proofs.Ytockdinjmnkdoaa
