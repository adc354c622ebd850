/- One step of the chase. -/
import Derived.Test.YtmcmphmhjikgkaaGreatDoorC8
set_option linter.unusedSimpArgs false
set_option linter.unusedVariables false
set_option linter.unusedSectionVars false
namespace Go.Ab.A20
open Go Go.Ab
/-- The set behind some members. -/
def setM (z : Nat) (l : List Nat) : Nat := l.foldl (fun a i => a ||| 2 ^ i) z
theorem setM_snoc (z : Nat) (l : List Nat) (i : Nat) : setM z (l ++ [i]) = setM z l ||| 2 ^ i := by unfold setM; rw [List.foldl_append]; rfl
theorem setM_bit (i : Nat) : ∀ (l : List Nat) (z : Nat), (setM z l).testBit i = (z.testBit i || decide (i ∈ l))
  | [], z => by simp [setM]
  | a :: l, z => by
    have := setM_bit i l (z ||| 2 ^ a)
    unfold setM at *
    rw [List.foldl_cons, this, Nat.testBit_or, Nat.testBit_two_pow, Bool.or_assoc]
    congr 1
    rw [← Bool.decide_or, decide_eq_decide, List.mem_cons]
    exact ⟨fun h => h.imp (fun e => e.symm) id, fun h => h.imp (fun e => e.symm) id⟩
theorem setM_mem {z e : Nat} (he : e < 64) : setM z (memN e) = z ||| e := by
  refine Nat.eq_of_testBit_eq fun i => ?_
  rw [setM_bit, Nat.testBit_or]
  congr 1
  cases hb : e.testBit i with
  | true =>
    rw [decide_eq_true_eq]
    refine memN_mem.2 ⟨?_, hb⟩
    apply Classical.byContradiction
    intro hn
    have h2 : 2 ^ 6 ≤ 2 ^ i := Nat.pow_le_pow_right (by omega) (by omega)
    rw [Nat.testBit_lt_two_pow (by omega)] at hb
    cases hb
  | false =>
    rw [decide_eq_false_iff_not]
    intro h
    rw [(memN_mem.1 h).2] at hb
    cases hb
theorem mem_lt {n e i : Nat} (he : e < 2 ^ n) (h : i ∈ memN e) : i < n := by
  apply Classical.byContradiction
  intro hn
  have h1 := (memN_mem.1 h).2
  have h2 : 2 ^ n ≤ 2 ^ i := Nat.pow_le_pow_right (by omega) (by omega)
  rw [Nat.testBit_lt_two_pow (by omega)] at h1
  cases h1
end Go.Ab.A20
namespace Go.Proofs.YtmcmphmhjikgkaaGreatDoor
open Go Go.Ab Go.Ab.A20
variable [Gl] [Bru]

set_option maxHeartbeats 2000000 in
set_option maxRecDepth 20000 in
theorem equate_p (n z e : Nat) (hn : n ≤ 6) (h0 : 0 < n) (hz : z < 2 ^ n) (he : e < 2 ^ n) : PCall Tryz.prog 100 [TB n [2 ^ n - 1, z], U32 e, I64 0, I64 1] (TB n (tabL n (z ||| e))) := by
  have hp6 := pow6 hn
  have cp := copied_o n (2 ^ n - 1) z hn h0
  have mp := mem_p e (by omega)
  have hmt : ∀ i ∈ memN e, i < n := fun i hi => mem_lt he hi
  have hml := mem_len e
  have hze : z ||| e < 2 ^ n := or_n hz he
  have hst := fun g => sorted_t n (z ||| e) g hn hze
  have hsm := setM_mem (z := z) (e := e) (by omega)
  rw [← hsm] at hst ⊢
  generalize memN e = ms at *
  have hnl := natI_len ms
  have fa : ∀ j, j < n → gR n (2 ^ n - 1) j = j := fun j h => full_at h
  generalize 2 ^ n - 1 = T at *
  refine Call.enter' (N := 76) (rs := [.cell 8 40]) Tryz.func100 rfl rfl rfl (by decide) rfl ?_; simp only [argT]; have hD : (0 : Nat) = 0 := rfl
  repeat' first | (with_reducible refine Call.mono (Call.frameN (h1 := []) cp) ?_; intro r h' hx; obtain ⟨h1', rfl, ⟨lb, p, q, rfl, rfl⟩, hnd⟩ := hx; simp only [List.cons_append, List.nil_append, List.map_cons, List.map_nil, List.nodup_cons, List.mem_cons, List.not_mem_nil, or_false, not_or, List.nodup_nil, and_true, not_false_eq_true] at hnd; obtain ⟨⟨a1, a2, a3, a4⟩, ⟨a5, a6, a7⟩, ⟨a8, a9⟩, a10⟩ := hnd; replace hD := And.intro a1 (And.intro a2 (And.intro a3 (And.intro a4 (And.intro a5 (And.intro a6 (And.intro a7 (And.intro a8 (And.intro a9 (And.intro (Ne.symm a1) (And.intro (Ne.symm a2) (And.intro (Ne.symm a3) (And.intro (Ne.symm a4) (And.intro (Ne.symm a5) (And.intro (Ne.symm a6) (And.intro (Ne.symm a7) (And.intro (Ne.symm a8) (And.intro (Ne.symm a9) hD))))))))))))))))); simp only [ne_eq, neF] at hD; clear a1 a2 a3 a4 a5 a6 a7 a8 a9 a10; simp only [go_sem, hD, List.cons_append, List.nil_append]) | (with_reducible refine And.intro (by omega) ?_) | (refine SW.seq_k fun K hK => ?_) | (refine SW.block ?_) | ((first | refine SW.region ?_ | refine SW.regionD (Checked.mixed Tryz.checked) (by kernel_rfl) ?_ | refine SW.cond ?_ | refine SW.skip ?_ | refine SW.exit ?_ | refine SW.ret ?_ | refine Call.of_pure (mp) ?_ | refine ⟨_, mp, ?_⟩ | (refine allF_i fun b hb => ?_; replace hD := And.intro hb hD; clear hb; try simp only [fresh_cons, fresh_nil, and_true, ne_eq, neF] at hD) | simp only [appK, appOsK]); try simp only [go_sem, hD, true_implies, hnl]) | (refine And.intro (by omega) ?_) | (refine ifI (fun hc => ?_) (fun hc => ?_) <;> first | (exfalso; omega) | skip) | ((first | apply hK | ((iterate 1 (clear hK K)); apply hK) | ((iterate 2 (clear hK K)); apply hK) | ((iterate 3 (clear hK K)); apply hK) | ((iterate 4 (clear hK K)); apply hK) | ((iterate 5 (clear hK K)); apply hK)); clear hK K)
  clear cp mp
  rename_i bb rb
  obtain ⟨cb, rfl⟩ : ∃ x, x = b := ⟨_, rfl⟩
  refine Ab.SW.le (St.le_pick [(cb, .svs [I64 n, .os lb 0 2 1]), (lb, .svs [.os p 0 n 1, .os q 0 n 1]), (p, .svs (rowL n T)), (q, .svs (rowL n z)), (rb, .svs [I64 0, .sc (.slice none 0 0)])] ?_ ?_) ?_
  · repeat' (first | exact (fun x hx => (List.not_mem_nil hx).elim) | refine List.forall_mem_cons.2 ⟨?_, ?_⟩ | exact List.mem_cons_self | apply List.mem_cons_of_mem)
  · simp [fresh_cons, fresh_nil, hD]
  obtain ⟨I, hI⟩ : ∃ I : Nat → St → Prop, ∀ k S, I k S ↔ (∃ (i : Nat) , k = ms.length - i ∧ i ≤ ms.length ∧ S = ⟨[(2, I64 0), (3, I64 1), (8, .op rb 0), (9, .op cb 0), (20, NL (natI ms)), (21, I64 ms.length), (22, I64 i)], [(cb, .svs [I64 n, .os lb 0 2 1]), (lb, .svs [.os p 0 n 1, .os q 0 n 1]), (p, .svs (rowL n T)), (q, .svs (rowL n (setM z (ms.take i)))), (rb, .svs [I64 0, .sc (.slice none 0 0)])]⟩) := ⟨fun k S => _, fun _ _ => Iff.rfl⟩
  refine SW.loop' I (ms.length) ((hI _ _).2 ⟨0, rfl, Nat.zero_le _, rfl⟩) (by repeat' (first | exact rfl | exact trivial | exact int_eq (by omega) | exact int_eq (by (rw [i64_wrap] <;> omega)) | constructor)) ?_
  intro k S hIn
  obtain ⟨i, rfl, hi, rfl⟩ := (hI _ _).1 hIn
  clear hIn
  have ie : ((i : Nat) : Int).toNat = i := Int.toNat_natCast _
  have i0 : (0 : Int) ≤ ((i : Nat) : Int) := by omega
  by_cases hlt : i < ms.length
  · have hli : ((i : Nat) : Int) < (((ms.length) : Nat) : Int) := by omega
    have w1 : IntKind.i64.wrap ((i : Int) + 1) = ((i + 1 : Nat) : Int) := by rw [i64_wrap (by omega) (by omega)]; omega
    have hvm := hmt _ (getD_mem 0 hlt)
    have hsn := take_snoc (l := ms) 0 hlt
    have tf : nF (natI ms) i = [I64 (ms.getD i 0 : Nat)] := by unfold nF; rw [natI_at hlt]; rfl
    have hs1 := setM_snoc z (ms.take i) (ms.getD i 0)
    rw [← hsn] at hs1
    generalize ms.getD i 0 = v at *
    have hv0 := rowL_at (s := T) hvm
    rw [fa v hvm] at hv0
    have hv1 := rowL_at (s := setM z (ms.take i)) hvm
    generalize setM z (ms.take i) = Z at *
    have v0 : (0 : Int) ≤ ((v : Nat) : Int) := by omega
    have vl : ((v : Nat) : Int) < ((n : Nat) : Int) := by omega
    have ve : ((v : Nat) : Int).toNat = v := Int.toNat_natCast _
    have z1 : 0 + v * 1 = v := by omega
    have l0 : v < (rowL n T).length := by rw [rowL_len]; exact hvm
    have l1 : v < (rowL n Z).length := by rw [rowL_len]; exact hvm
    cases hb : Z.testBit v with
    | true =>
      have e1 : gR n Z v = v := by unfold gR; rw [if_pos hb]
      rw [e1] at hv1
      have e2 : Z ||| 2 ^ v = Z := by
        refine Nat.eq_of_testBit_eq fun a => ?_
        rw [Nat.testBit_or, Nat.testBit_two_pow]
        by_cases h : v = a
        · subst h
          rw [hb]; rfl
        · rw [decide_eq_false h, Bool.or_false]
      rw [e2] at hs1
      repeat' first | (with_reducible refine And.intro (by omega) ?_) | (refine SW.seq_k fun K hK => ?_) | (refine SW.block ?_) | ((first | refine SW.region ?_ | refine SW.regionD (Checked.mixed Tryz.checked) (by kernel_rfl) ?_ | refine SW.cond ?_ | refine SW.skip ?_ | refine SW.exit ?_ | refine SW.ret ?_ | (refine allF_i fun b hb => ?_; replace hD := And.intro hb hD; clear hb; try simp only [fresh_cons, fresh_nil, and_true, ne_eq, neF] at hD) | simp only [appK, appOsK]); try simp only [go_sem, hD, hli, ie, i0, w1, tf, v0, vl, ve, z1, l0, l1, hv0, hv1]) | (refine And.intro (by omega) ?_) | (refine ifI (fun hc => ?_) (fun hc => ?_) <;> first | (exfalso; omega) | skip) | ((first | apply hK | ((iterate 1 (clear hK K)); apply hK) | ((iterate 2 (clear hK K)); apply hK) | ((iterate 3 (clear hK K)); apply hK) | ((iterate 4 (clear hK K)); apply hK) | ((iterate 5 (clear hK K)); apply hK)); clear hK K)
      rw [← hs1]
      refine Rnd.sub (ms.length - (i + 1)) (by omega) ((hI _ _).2 ⟨i + 1, rfl, by omega, rfl⟩) (by repeat' (first | exact rfl | exact trivial | exact int_eq (by omega) | exact int_eq (by (rw [i64_wrap] <;> omega)) | constructor))
    | false =>
      have e1 : gR n Z v = 2 * n + v := by unfold gR; rw [if_neg (by rw [hb]; simp)]
      rw [e1] at hv1
      have ne1 : ¬ ((v : Nat) : Int) = ((2 * n + v : Nat) : Int) := by omega
      repeat' first | (with_reducible refine And.intro (by omega) ?_) | (refine SW.seq_k fun K hK => ?_) | (refine SW.block ?_) | ((first | refine SW.region ?_ | refine SW.regionD (Checked.mixed Tryz.checked) (by kernel_rfl) ?_ | refine SW.cond ?_ | refine SW.skip ?_ | refine SW.exit ?_ | refine SW.ret ?_ | (refine allF_i fun b hb => ?_; replace hD := And.intro hb hD; clear hb; try simp only [fresh_cons, fresh_nil, and_true, ne_eq, neF] at hD) | simp only [appK, appOsK]); try simp only [go_sem, hD, hli, ie, i0, w1, tf, v0, vl, ve, z1, l0, l1, hv0, hv1, ne1]) | (refine And.intro (by omega) ?_) | (refine ifI (fun hc => ?_) (fun hc => ?_) <;> first | (exfalso; omega) | skip) | ((first | apply hK | ((iterate 1 (clear hK K)); apply hK) | ((iterate 2 (clear hK K)); apply hK) | ((iterate 3 (clear hK K)); apply hK) | ((iterate 4 (clear hK K)); apply hK) | ((iterate 5 (clear hK K)); apply hK)); clear hK K)
      have hIO := hI
      clear hI hv0 hv1 l0 l1 z1
      have ow1 := w1
      have hvn := hvm
      obtain ⟨J, hJ⟩ : ∃ J : Nat → St → Prop, ∀ m S, J m S ↔ (∃ (c : Int) (Zc : Nat), (m = 2 ∧ c = 0 ∧ Zc = Z ∨ m = 1 ∧ c = 1 ∧ Zc = Z ∨ m = 0 ∧ c = 2 ∧ Zc = Z ||| 2 ^ v) ∧ S = ⟨[(12, I64 v), (13, I64 (2 * n + v : Nat)), (46, .os lb 0 2 1), (47, I64 2), (48, I64 c), (2, I64 0), (3, I64 1), (8, .op rb 0), (9, .op cb 0), (20, NL (natI ms)), (21, I64 ms.length), (22, I64 i)], [(cb, .svs [I64 n, .os lb 0 2 1]), (lb, .svs [.os p 0 n 1, .os q 0 n 1]), (p, .svs (rowL n T)), (q, .svs (rowL n Zc)), (rb, .svs [I64 0, .sc (.slice none 0 0)])]⟩) := ⟨fun m S => _, fun _ _ => Iff.rfl⟩
      refine SW.loop' J 2 ((hJ _ _).2 ⟨0, Z, .inl ⟨rfl, rfl, rfl⟩, rfl⟩) (by repeat' (first | exact rfl | exact trivial | exact int_eq (by omega) | exact int_eq (by (rw [i64_wrap] <;> omega)) | constructor)) ?_
      intro m S hIn
      obtain ⟨c, Zc, hc, rfl⟩ := (hJ _ _).1 hIn
      clear hIn
      have x1 : IntKind.i64.wrap ((0 : Int) + 1) = 1 := by decide
      have x2 : IntKind.i64.wrap ((1 : Int) + 1) = 2 := by decide
      rcases hc with ⟨rfl, rfl, rfl⟩ | ⟨rfl, rfl, rfl⟩ | ⟨rfl, rfl, rfl⟩
      · repeat' first | (with_reducible refine And.intro (by omega) ?_) | (refine SW.seq_k fun K hK => ?_) | (refine SW.block ?_) | ((first | refine SW.region ?_ | refine SW.regionD (Checked.mixed Tryz.checked) (by kernel_rfl) ?_ | refine SW.cond ?_ | refine SW.skip ?_ | refine SW.exit ?_ | refine SW.ret ?_ | (refine allF_i fun b hb => ?_; replace hD := And.intro hb hD; clear hb; try simp only [fresh_cons, fresh_nil, and_true, ne_eq, neF] at hD) | simp only [appK, appOsK]); try simp only [go_sem, hD]) | (refine And.intro (by omega) ?_) | (refine ifI (fun hc => ?_) (fun hc => ?_) <;> first | (exfalso; omega) | skip) | ((first | apply hK | ((iterate 1 (clear hK K)); apply hK) | ((iterate 2 (clear hK K)); apply hK) | ((iterate 3 (clear hK K)); apply hK) | ((iterate 4 (clear hK K)); apply hK) | ((iterate 5 (clear hK K)); apply hK)); clear hK K)
        obtain ⟨I, hI⟩ : ∃ I : Nat → St → Prop, ∀ k S, I k S ↔ (∃ (j : Nat) , k = n - j ∧ j ≤ n ∧ S = ⟨[(15, .os p 0 n 1), (53, I64 n), (54, I64 j), (12, I64 v), (13, I64 (2 * n + v : Nat)), (46, .os lb 0 2 1), (47, I64 2), (48, I64 0), (2, I64 0), (3, I64 1), (8, .op rb 0), (9, .op cb 0), (20, NL (natI ms)), (21, I64 ms.length), (22, I64 i)], [(cb, .svs [I64 n, .os lb 0 2 1]), (lb, .svs [.os p 0 n 1, .os q 0 n 1]), (p, .svs (rowL n T)), (q, .svs (rowL n Zc)), (rb, .svs [I64 0, .sc (.slice none 0 0)])]⟩) := ⟨fun k S => _, fun _ _ => Iff.rfl⟩
        refine SW.loop' I (n) ((hI _ _).2 ⟨0, rfl, Nat.zero_le _, rfl⟩) (by repeat' (first | exact rfl | exact trivial | exact int_eq (by omega) | exact int_eq (by (rw [i64_wrap] <;> omega)) | constructor)) ?_
        intro k S hIn
        obtain ⟨j, rfl, hi, rfl⟩ := (hI _ _).1 hIn
        clear hIn
        have ie : ((j : Nat) : Int).toNat = j := Int.toNat_natCast _
        have i0 : (0 : Int) ≤ ((j : Nat) : Int) := by omega
        by_cases hlt : j < n
        · have hli : ((j : Nat) : Int) < (((n) : Nat) : Int) := by omega
          have w1 : IntKind.i64.wrap ((j : Int) + 1) = ((j + 1 : Nat) : Int) := by rw [i64_wrap (by omega) (by omega)]; omega
          have jl : ((j : Nat) : Int) < ((n : Nat) : Int) := by omega
          have z1 : 0 + j * 1 = j := by omega
          have l0 : j < (rowL n T).length := by rw [rowL_len]; exact hlt
          have hv0 := rowL_at (s := T) hlt
          rw [fa j hlt] at hv0
          have ne2 : ¬ ((j : Nat) : Int) = ((2 * n + v : Nat) : Int) := by omega
          repeat' first | (with_reducible refine And.intro (by omega) ?_) | (refine SW.seq_k fun K hK => ?_) | (refine SW.block ?_) | ((first | refine SW.region ?_ | refine SW.regionD (Checked.mixed Tryz.checked) (by kernel_rfl) ?_ | refine SW.cond ?_ | refine SW.skip ?_ | refine SW.exit ?_ | refine SW.ret ?_ | (refine allF_i fun b hb => ?_; replace hD := And.intro hb hD; clear hb; try simp only [fresh_cons, fresh_nil, and_true, ne_eq, neF] at hD) | simp only [appK, appOsK]); try simp only [go_sem, hD, hli, ie, i0, w1, jl, z1, l0, hv0, ne2]) | (refine And.intro (by omega) ?_) | (refine ifI (fun hc => ?_) (fun hc => ?_) <;> first | (exfalso; omega) | skip) | ((first | apply hK | ((iterate 1 (clear hK K)); apply hK) | ((iterate 2 (clear hK K)); apply hK) | ((iterate 3 (clear hK K)); apply hK) | ((iterate 4 (clear hK K)); apply hK) | ((iterate 5 (clear hK K)); apply hK)); clear hK K)
          refine Rnd.sub (n - (j + 1)) (by omega) ((hI _ _).2 ⟨j + 1, rfl, by omega, rfl⟩) (by repeat' (first | exact rfl | exact trivial | exact int_eq (by omega) | exact int_eq (by (rw [i64_wrap] <;> omega)) | constructor))
        · have hli : ¬ ((j : Nat) : Int) < (((n) : Nat) : Int) := by omega
          repeat' first | (with_reducible refine And.intro (by omega) ?_) | (refine SW.seq_k fun K hK => ?_) | (refine SW.block ?_) | ((first | refine SW.region ?_ | refine SW.regionD (Checked.mixed Tryz.checked) (by kernel_rfl) ?_ | refine SW.cond ?_ | refine SW.skip ?_ | refine SW.exit ?_ | refine SW.ret ?_ | (refine allF_i fun b hb => ?_; replace hD := And.intro hb hD; clear hb; try simp only [fresh_cons, fresh_nil, and_true, ne_eq, neF] at hD) | simp only [appK, appOsK]); try simp only [go_sem, hD, hli, x1]) | (refine And.intro (by omega) ?_) | (refine ifI (fun hc => ?_) (fun hc => ?_) <;> first | (exfalso; omega) | skip) | ((first | apply hK | ((iterate 1 (clear hK K)); apply hK) | ((iterate 2 (clear hK K)); apply hK) | ((iterate 3 (clear hK K)); apply hK) | ((iterate 4 (clear hK K)); apply hK) | ((iterate 5 (clear hK K)); apply hK)); clear hK K)
          refine Rnd.sub 1 (by omega) ((hJ _ _).2 ⟨1, Zc, .inr (.inl ⟨rfl, rfl, rfl⟩), rfl⟩) (by repeat' (first | exact rfl | exact trivial | exact int_eq (by omega) | exact int_eq (by (rw [i64_wrap] <;> omega)) | constructor))
      · repeat' first | (with_reducible refine And.intro (by omega) ?_) | (refine SW.seq_k fun K hK => ?_) | (refine SW.block ?_) | ((first | refine SW.region ?_ | refine SW.regionD (Checked.mixed Tryz.checked) (by kernel_rfl) ?_ | refine SW.cond ?_ | refine SW.skip ?_ | refine SW.exit ?_ | refine SW.ret ?_ | (refine allF_i fun b hb => ?_; replace hD := And.intro hb hD; clear hb; try simp only [fresh_cons, fresh_nil, and_true, ne_eq, neF] at hD) | simp only [appK, appOsK]); try simp only [go_sem, hD]) | (refine And.intro (by omega) ?_) | (refine ifI (fun hc => ?_) (fun hc => ?_) <;> first | (exfalso; omega) | skip) | ((first | apply hK | ((iterate 1 (clear hK K)); apply hK) | ((iterate 2 (clear hK K)); apply hK) | ((iterate 3 (clear hK K)); apply hK) | ((iterate 4 (clear hK K)); apply hK) | ((iterate 5 (clear hK K)); apply hK)); clear hK K)
        have vgt : ¬ ((2 * n + v : Nat) : Int) < ((v : Nat) : Int) := by omega
        have vlt : ((v : Nat) : Int) < ((2 * n + v : Nat) : Int) := by omega
        obtain ⟨I, hI⟩ : ∃ I : Nat → St → Prop, ∀ k S, I k S ↔ (∃ (j : Nat) (C : List SV), k = n - j ∧ j ≤ n ∧ C = rowG n (fun a => if a < j then gR n (Zc ||| 2 ^ v) a else gR n Zc a) ∧ S = ⟨[(15, .os q 0 n 1), (53, I64 n), (54, I64 j), (12, I64 v), (13, I64 (2 * n + v : Nat)), (46, .os lb 0 2 1), (47, I64 2), (48, I64 1), (2, I64 0), (3, I64 1), (8, .op rb 0), (9, .op cb 0), (20, NL (natI ms)), (21, I64 ms.length), (22, I64 i)], [(cb, .svs [I64 n, .os lb 0 2 1]), (lb, .svs [.os p 0 n 1, .os q 0 n 1]), (p, .svs (rowL n T)), (q, .svs C), (rb, .svs [I64 0, .sc (.slice none 0 0)])]⟩) := ⟨fun k S => _, fun _ _ => Iff.rfl⟩
        refine SW.loop' I (n) ((hI _ _).2 ⟨0, _, rfl, Nat.zero_le _, rowG_congr (fun a ha => by rw [if_neg (Nat.not_lt_zero a)]), rfl⟩) (by repeat' (first | exact rfl | exact trivial | exact int_eq (by omega) | exact int_eq (by (rw [i64_wrap] <;> omega)) | constructor)) ?_
        intro k S hIn
        obtain ⟨j, C, rfl, hi, hC, rfl⟩ := (hI _ _).1 hIn
        clear hIn
        have ie : ((j : Nat) : Int).toNat = j := Int.toNat_natCast _
        have i0 : (0 : Int) ≤ ((j : Nat) : Int) := by omega
        by_cases hlt : j < n
        · have hli : ((j : Nat) : Int) < (((n) : Nat) : Int) := by omega
          have w1 : IntKind.i64.wrap ((j : Int) + 1) = ((j + 1 : Nat) : Int) := by rw [i64_wrap (by omega) (by omega)]; omega
          have jl : ((j : Nat) : Int) < ((n : Nat) : Int) := by omega
          have z1 : 0 + j * 1 = j := by omega
          have l0 : j < C.length := by rw [hC, rowG_len]; exact hlt
          have hv0 : C.getD j .any = I64 (gR n Zc j : Nat) := by
            rw [hC, rowG_at hlt, if_neg (Nat.lt_irrefl j)]
          by_cases hjv : j = v
          · subst hjv
            rw [e1] at hv0
            have hC2 : C.set j (I64 (j : Nat)) = rowG n (fun a => if a < j + 1 then gR n (Zc ||| 2 ^ j) a else gR n Zc a) := by
              rw [hC, rowG_set]
              refine rowG_congr fun a ha => ?_
              simp only [gR_or]
              by_cases h1 : a = j
              · subst h1
                simp
              · by_cases h2 : a < j
                · simp only [if_neg h1, if_pos h2, if_pos (show a < j + 1 by omega)]
                · simp only [if_neg h1, if_neg h2, if_neg (show ¬ a < j + 1 by omega)]
            repeat' first | (with_reducible refine And.intro (by omega) ?_) | (refine SW.seq_k fun K hK => ?_) | (refine SW.block ?_) | ((first | refine SW.region ?_ | refine SW.regionD (Checked.mixed Tryz.checked) (by kernel_rfl) ?_ | refine SW.cond ?_ | refine SW.skip ?_ | refine SW.exit ?_ | refine SW.ret ?_ | (refine allF_i fun b hb => ?_; replace hD := And.intro hb hD; clear hb; try simp only [fresh_cons, fresh_nil, and_true, ne_eq, neF] at hD) | simp only [appK, appOsK]); try simp only [go_sem, hD, hli, ie, i0, w1, jl, z1, l0, hv0, vlt, vgt]) | (refine And.intro (by omega) ?_) | (refine ifI (fun hc => ?_) (fun hc => ?_) <;> first | (exfalso; omega) | skip) | ((first | apply hK | ((iterate 1 (clear hK K)); apply hK) | ((iterate 2 (clear hK K)); apply hK) | ((iterate 3 (clear hK K)); apply hK) | ((iterate 4 (clear hK K)); apply hK) | ((iterate 5 (clear hK K)); apply hK)); clear hK K)
            refine Rnd.sub (n - (j + 1)) (by omega) ((hI _ _).2 ⟨j + 1, _, rfl, by omega, hC2, rfl⟩) (by repeat' (first | exact rfl | exact trivial | exact int_eq (by omega) | exact int_eq (by (rw [i64_wrap] <;> omega)) | constructor))
          · have ne2 : ¬ ((gR n Zc j : Nat) : Int) = ((2 * n + v : Nat) : Int) := by
              unfold gR
              split <;> omega
            have hC2 : C = rowG n (fun a => if a < j + 1 then gR n (Zc ||| 2 ^ v) a else gR n Zc a) := by
              rw [hC]
              refine rowG_congr fun a ha => ?_
              simp only [gR_or]
              by_cases h1 : a < j
              · simp only [if_pos h1, if_pos (show a < j + 1 by omega)]
              · by_cases h2 : a = j
                · subst h2
                  simp only [if_neg h1, if_pos (show a < a + 1 by omega), if_neg hjv]
                · simp only [if_neg h1, if_neg (show ¬ a < j + 1 by omega)]
            generalize gR n Zc j = u at *
            repeat' first | (with_reducible refine And.intro (by omega) ?_) | (refine SW.seq_k fun K hK => ?_) | (refine SW.block ?_) | ((first | refine SW.region ?_ | refine SW.regionD (Checked.mixed Tryz.checked) (by kernel_rfl) ?_ | refine SW.cond ?_ | refine SW.skip ?_ | refine SW.exit ?_ | refine SW.ret ?_ | (refine allF_i fun b hb => ?_; replace hD := And.intro hb hD; clear hb; try simp only [fresh_cons, fresh_nil, and_true, ne_eq, neF] at hD) | simp only [appK, appOsK]); try simp only [go_sem, hD, hli, ie, i0, w1, jl, z1, l0, hv0, vlt, ne2]) | (refine And.intro (by omega) ?_) | (refine ifI (fun hc => ?_) (fun hc => ?_) <;> first | (exfalso; omega) | skip) | ((first | apply hK | ((iterate 1 (clear hK K)); apply hK) | ((iterate 2 (clear hK K)); apply hK) | ((iterate 3 (clear hK K)); apply hK) | ((iterate 4 (clear hK K)); apply hK) | ((iterate 5 (clear hK K)); apply hK)); clear hK K)
            refine Rnd.sub (n - (j + 1)) (by omega) ((hI _ _).2 ⟨j + 1, _, rfl, by omega, hC2, rfl⟩) (by repeat' (first | exact rfl | exact trivial | exact int_eq (by omega) | exact int_eq (by (rw [i64_wrap] <;> omega)) | constructor))
        · have hli : ¬ ((j : Nat) : Int) < (((n) : Nat) : Int) := by omega
          have hC2 : C = rowL n (Zc ||| 2 ^ v) := by
            rw [hC, rowL_G]
            refine rowG_congr fun a ha => ?_
            rw [if_pos (by omega)]
          subst hC2
          repeat' first | (with_reducible refine And.intro (by omega) ?_) | (refine SW.seq_k fun K hK => ?_) | (refine SW.block ?_) | ((first | refine SW.region ?_ | refine SW.regionD (Checked.mixed Tryz.checked) (by kernel_rfl) ?_ | refine SW.cond ?_ | refine SW.skip ?_ | refine SW.exit ?_ | refine SW.ret ?_ | (refine allF_i fun b hb => ?_; replace hD := And.intro hb hD; clear hb; try simp only [fresh_cons, fresh_nil, and_true, ne_eq, neF] at hD) | simp only [appK, appOsK]); try simp only [go_sem, hD, hli, x2]) | (refine And.intro (by omega) ?_) | (refine ifI (fun hc => ?_) (fun hc => ?_) <;> first | (exfalso; omega) | skip) | ((first | apply hK | ((iterate 1 (clear hK K)); apply hK) | ((iterate 2 (clear hK K)); apply hK) | ((iterate 3 (clear hK K)); apply hK) | ((iterate 4 (clear hK K)); apply hK) | ((iterate 5 (clear hK K)); apply hK)); clear hK K)
          refine Rnd.sub 0 (by omega) ((hJ _ _).2 ⟨2, _, .inr (.inr ⟨rfl, rfl, rfl⟩), rfl⟩) (by repeat' (first | exact rfl | exact trivial | exact int_eq (by omega) | exact int_eq (by (rw [i64_wrap] <;> omega)) | constructor))
      · have nl2 : ¬ (2 : Int) < 2 := by omega
        repeat' first | (with_reducible refine And.intro (by omega) ?_) | (refine SW.seq_k fun K hK => ?_) | (refine SW.block ?_) | ((first | refine SW.region ?_ | refine SW.regionD (Checked.mixed Tryz.checked) (by kernel_rfl) ?_ | refine SW.cond ?_ | refine SW.skip ?_ | refine SW.exit ?_ | refine SW.ret ?_ | (refine allF_i fun b hb => ?_; replace hD := And.intro hb hD; clear hb; try simp only [fresh_cons, fresh_nil, and_true, ne_eq, neF] at hD) | simp only [appK, appOsK]); try simp only [go_sem, hD, nl2, ow1]) | (refine And.intro (by omega) ?_) | (refine ifI (fun hc => ?_) (fun hc => ?_) <;> first | (exfalso; omega) | skip) | ((first | apply hK | ((iterate 1 (clear hK K)); apply hK) | ((iterate 2 (clear hK K)); apply hK) | ((iterate 3 (clear hK K)); apply hK) | ((iterate 4 (clear hK K)); apply hK) | ((iterate 5 (clear hK K)); apply hK)); clear hK K)
        rw [← hs1]
        refine Rnd.sub (ms.length - (i + 1)) (by omega) ((hIO _ _).2 ⟨i + 1, rfl, by omega, rfl⟩) (by repeat' (first | exact rfl | exact trivial | exact int_eq (by omega) | exact int_eq (by (rw [i64_wrap] <;> omega)) | constructor))
  · have hli : ¬ ((i : Nat) : Int) < (((ms.length) : Nat) : Int) := by omega
    obtain rfl : i = ms.length := by omega
    rw [List.take_length]
    have nqp : ¬ lb = p := by simp [hD]
    have nqq : ¬ lb = q := by simp [hD]
    refine Ab.SW.le (St.le_freezeC (c := lb) (j := 0) (b := p) (off := 0) (len := n) (sz := 1) (k := .svs (rowL n T)) (cs := [.os p 0 n 1, .os q 0 n 1]) (by simp only [find_cons, go_sem, hD]) nqp (by show 0 < 2; omega) rfl (by simp only [find_cons, go_sem, hD]) (by rw [Blk.len_svs, rowL_len]; omega) (gF n T) (fun j hj => by
      rw [getN_take _ _ _ (by rw [Blk.len_svs, rowL_len]; omega), Nat.zero_add, Nat.mul_one]
      exact rowL_get hj)) ?_
    simp only [del_cons, upd_cons, List.set_cons_zero, go_sem, hD]
    refine Ab.SW.le (St.le_freezeC (c := lb) (j := 1) (b := q) (off := 0) (len := n) (sz := 1) (k := .svs (rowL n (setM z ms))) (cs := [NR n T, .os q 0 n 1]) (by simp only [find_cons, go_sem, hD]) nqq (by show 1 < 2; omega) rfl (by simp only [find_cons, go_sem, hD]) (by rw [Blk.len_svs, rowL_len]; omega) (gF n (setM z ms)) (fun j hj => by
      rw [getN_take _ _ _ (by rw [Blk.len_svs, rowL_len]; omega), Nat.zero_add, Nat.mul_one]
      exact rowL_get hj)) ?_
    simp only [del_cons, upd_cons, List.set_cons_zero, List.set_cons_succ, go_sem, hD]
    generalize setM z ms = Z at *
    have PP : ([(lb, Blk.svs [NR n T, NR n Z])] ++ [(cb, Blk.svs [I64 n, .os lb 0 2 1]), (rb, Blk.svs [I64 0, .sc (.slice none 0 0)])]).Perm [(cb, Blk.svs [I64 n, .os lb 0 2 1]), (lb, Blk.svs [NR n T, NR n Z]), (rb, Blk.svs [I64 0, .sc (.slice none 0 0)])] := List.Perm.swap _ _ _
    have st := Call.perm (Call.frameN (h2 := [(cb, Blk.svs [I64 n, .os lb 0 2 1]), (rb, Blk.svs [I64 0, .sc (.slice none 0 0)])]) (hst lb)) (fun x => PP.mem_iff) (fun hn => (PP.map _).nodup_iff.2 hn)
    repeat' first | (with_reducible refine Call.mono st ?_; intro r h' hx; obtain ⟨h1', rfl, ⟨rfl, rfl⟩, hnd⟩ := hx; simp only [go_sem, hD, List.cons_append, List.nil_append]) | (with_reducible refine And.intro (by omega) ?_) | (refine SW.seq_k fun K hK => ?_) | (refine SW.block ?_) | ((first | refine SW.region ?_ | refine SW.regionD (Checked.mixed Tryz.checked) (by kernel_rfl) ?_ | refine SW.cond ?_ | refine SW.skip ?_ | refine SW.exit ?_ | refine SW.ret ?_ | (refine allF_i fun b hb => ?_; replace hD := And.intro hb hD; clear hb; try simp only [fresh_cons, fresh_nil, and_true, ne_eq, neF] at hD) | simp only [appK, appOsK]); try simp only [go_sem, hD, hli]) | (refine And.intro (by omega) ?_) | (refine ifI (fun hc => ?_) (fun hc => ?_) <;> first | (exfalso; omega) | skip) | ((first | apply hK | ((iterate 1 (clear hK K)); apply hK) | ((iterate 2 (clear hK K)); apply hK) | ((iterate 3 (clear hK K)); apply hK) | ((iterate 4 (clear hK K)); apply hK) | ((iterate 5 (clear hK K)); apply hK)); clear hK K)
    apply ret_cell (i := 8) (n := 2); exact rfl; (simp only [go_sem, hD]; try rfl); (first | exact Nat.le_refl _ | decide); simp only [resL_tmp, resL_cellE, resC_ok, resL_nil, tupOf, getN, go_sem, hD]
end Go.Proofs.YtmcmphmhjikgkaaGreatDoor
