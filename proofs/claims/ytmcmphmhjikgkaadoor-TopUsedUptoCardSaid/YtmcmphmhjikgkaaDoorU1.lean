/- Contracts: the given dependencies that a proof uses. -/
import Derived.Test.YtmcmphmhjikgkaaDoorA6
import Derived.Test.YtmcmphmhjikgkaaDoorA7
import Derived.Test.YtmcmphmhjikgkaaDoorS1
import Derived.Test.YtmcmphmhjikgkaaDoorZ16
set_option linter.unusedSimpArgs false
set_option linter.unusedVariables false
set_option linter.unusedSectionVars false
namespace Go.Ab.A20
open Go Go.Ab
theorem diff_of_nodup {α : Type} {l : List α} (h : l.Nodup) : Diff l := fun i hi e => by
  have := (List.getElem_inj h).1 e
  omega
/-- In order. -/
def srtI (l : List Int) : List Int := l.mergeSort fun x y => decide (x ≤ y)
theorem srtI_perm (l : List Int) : (srtI l).Perm l := List.mergeSort_perm _ _
theorem srtI_len (l : List Int) : (srtI l).length = l.length := List.length_mergeSort _
/-- What the given steps come from. -/
def givOf (s : Dv) : Option Int := if s.1 = 1 ∧ s.2.1.length = 1 then some (s.2.1.getD 0 0) else none
def valsS (L : List Dv) : List Int := L.filterMap givOf
theorem valsS_snoc (L : List Dv) (s : Dv) : valsS (L ++ [s]) = valsS L ++ (match givOf s with | some v => [v] | none => []) := by
  unfold valsS
  rw [List.filterMap_append]
  congr 1
  rw [List.filterMap_cons]
  cases givOf s <;> rfl
theorem valsS_len (L : List Dv) : (valsS L).length ≤ L.length := List.length_filterMap_le _ _
theorem ints_fC (l : List Int) : (l.map fun n => SV.sc (.int .i64 n)) = fC nC1 l := by
  unfold fC
  induction l with
  | nil => rfl
  | cons x r ih => rw [List.map_cons, ih, List.flatMap_cons]; rfl
end Go.Ab.A20
namespace Go.Proofs.YtmcmphmhjikgkaaDoor
open Go Go.Ab Go.Ab.A20 Go.Sort Go.RowKit
variable [Gl]

theorem sort_i (b : Nat) (l : List Int) (hl : l.length < 4611686018427387904) :
    Ab.Call Tryd.prog 33 [.os b 0 l.length 1] [(b, .svs (fC nC1 l))] (fun r h' => r = .tup [] ∧ h' = [(b, .svs (fC nC1 (srtI l)))]) := by
  have := Call.place1 (P := Tryd.prog) (f := 33) ⟨_, Tryd.func33, by kernel_rfl, by kernel_rfl⟩ (fun n : Int => .int .i64 n) b l (srtI l) (srtI_len l) (fun w cap hH hb => Tryd.slices_Sort_int b 0 cap l w hH hb hl)
  rw [ints_fC, ints_fC] at this
  exact this
theorem sort_i0 : PCall Tryd.prog 33 [.sc (.slice none 0 0)] (.tup []) := by
  refine PCall.of_calls ⟨_, Tryd.func33, by kernel_rfl, by kernel_rfl⟩ fun w E vs _ _ _ hr => ?_
  obtain ⟨hs1, hs2⟩ := hr
  have r0 := hs2 0 (by simp)
  simp only [List.getD_cons_zero] at r0
  have hv0 : vs.getD 0 undef = .slice none 0 0 := by
    generalize vs.getD 0 undef = v0 at r0
    cases r0; rfl
  have hvs : vs = #[.slice none 0 0] := by
    apply Array.ext
    · simpa using hs1
    · intro i h2 h3
      simp at h3
      subst h3
      have : vs[0] = vs.getD 0 undef := by simp [h2]
      rw [this, hv0]; rfl
  rw [hvs]
  exact (Tryd.slices_Sort_int_none none 0 w).mono fun e w' ⟨he, hw⟩ => ⟨_, he, fun _ => .tup #[] [] rfl (fun j hj => absurd hj (by simp)), by rw [hw]; exact ⟨RowKit.Below.refl _ _, Nat.le_refl _⟩⟩

set_option maxHeartbeats 1000000 in
set_option maxRecDepth 20000 in
theorem used_p (L : List Dv) (hn : (valsS L).Nodup) (hL : L.length ≤ 100000000000) : PCall Tryd.prog 18 [VL L] (NL (srtI (valsS L))) := by
  have hvl := valsS_len L
  have hsl := srtI_len (valsS L)
  have cp := compactI (srtI (valsS L)) (diff_of_nodup ((srtI_perm _).nodup_iff.2 hn)) (by omega)
  refine Call.enter' (N := 33) (rs := [.tmp 2]) Tryd.func18 rfl rfl rfl (by decide) rfl ?_; simp only [argT]; have hD : (0 : Nat) = 0 := rfl
  repeat' first | (with_reducible refine And.intro (by omega) ?_) | (refine SW.seq_k fun K hK => ?_) | (refine SW.block ?_) | ((first | refine SW.region ?_ | refine SW.regionD (Checked.mixed Tryd.checked) (by kernel_rfl) ?_ | refine SW.cond ?_ | refine SW.skip ?_ | refine SW.exit ?_ | refine SW.ret ?_ | (refine allF_i fun b hb => ?_; replace hD := And.intro hb hD; clear hb; try simp only [fresh_cons, fresh_nil, and_true, ne_eq, neF] at hD) | simp only [appK, appOsK]); try simp only [go_sem, hD]) | (refine And.intro (by omega) ?_) | (refine ifI (fun hc => ?_) (fun hc => ?_) <;> first | (exfalso; omega) | skip) | ((first | apply hK | ((iterate 1 (clear hK K)); apply hK) | ((iterate 2 (clear hK K)); apply hK) | ((iterate 3 (clear hK K)); apply hK) | ((iterate 4 (clear hK K)); apply hK) | ((iterate 5 (clear hK K)); apply hK)); clear hK K)
  obtain ⟨I, hI⟩ : ∃ I : Nat → St → Prop, ∀ k S, I k S ↔ (∃ (i : Nat) (x : SV) (h : Heap), k = L.length - i ∧ i ≤ L.length ∧ Acc 1 x h [] (valsS (L.take i)).length (fC nC1 (valsS (L.take i))) ∧ S = ⟨[(3, x), (6, VL L), (7, I64 L.length), (8, I64 i)], h⟩) := ⟨fun k S => _, fun _ _ => Iff.rfl⟩
  refine SW.loop' I (L.length) ((hI _ _).2 ⟨0, _, _, rfl, Nat.zero_le _, .nil _ _, rfl⟩) (by repeat' (first | exact rfl | exact trivial | exact int_eq (by omega) | exact int_eq (by (rw [i64_wrap] <;> omega)) | constructor)) ?_
  intro k S hIn
  obtain ⟨i, x, h, rfl, hi, hB, rfl⟩ := (hI _ _).1 hIn
  clear hIn
  have ie : ((i : Nat) : Int).toNat = i := Int.toNat_natCast _
  have i0 : (0 : Int) ≤ ((i : Nat) : Int) := by omega
  by_cases hlt : i < L.length
  · have hli : ((i : Nat) : Int) < (((L.length) : Nat) : Int) := by omega
    have w1 : IntKind.i64.wrap ((i : Int) + 1) = ((i + 1 : Nat) : Int) := by rw [i64_wrap (by omega) (by omega)]; omega
    have hsn := valsS_snoc (L.take i) (L.getD i dv0)
    rw [← take_snoc dv0 hlt] at hsn
    have hal := valsS_len (L.take i)
    rw [List.length_take] at hal
    obtain ⟨u, fr, a, c, hg⟩ : ∃ u fr a c, L.getD i dv0 = (u, fr, a, c) := ⟨_, _, _, _, rfl⟩
    have tf : vF L i = [I64 u, NL fr, U32 a, U32 c] := by unfold vF; rw [hg]; rfl
    rw [hg] at hsn
    by_cases hu : u = 1 ∧ fr.length = 1
    · obtain ⟨rfl, hf⟩ := hu
      obtain ⟨v, rfl⟩ : ∃ v, fr = [v] := List.length_eq_one_iff.1 hf
      have hvo : givOf (1, [v], a, c) = some v := rfl
      rw [hvo] at hsn
      simp only at hsn
      have t0 : nF [v] 0 = [I64 v] := rfl
      have l1 : [v].length = 1 := rfl
      generalize valsS (L.take i) = acc at *
      have ba : (acc.length + 1) * 8 ≤ 140737488355328 := by omega
      rcases hB.casesH with ⟨e0, e1, rfl, rfl⟩ | ⟨g, hgf, e0, rfl, hle⟩
      · have hLn : acc = [] := List.eq_nil_of_length_eq_zero e0
        subst hLn
        repeat' first | (with_reducible refine And.intro (by omega) ?_) | (refine SW.seq_k fun K hK => ?_) | (refine SW.block ?_) | ((first | refine SW.region ?_ | refine SW.regionD (Checked.mixed Tryd.checked) (by kernel_rfl) ?_ | refine SW.cond ?_ | refine SW.skip ?_ | refine SW.exit ?_ | refine SW.ret ?_ | (refine allF_i fun b hb => ?_; replace hD := And.intro hb hD; clear hb; try simp only [fresh_cons, fresh_nil, and_true, ne_eq, neF] at hD) | simp only [appK, appOsK]); try simp only [go_sem, hD, hli, ie, i0, w1, tf, t0, l1, ba, true_implies]) | (refine And.intro (by omega) ?_) | (refine ifI (fun hc => ?_) (fun hc => ?_) <;> first | (exfalso; omega) | skip) | ((first | apply hK | ((iterate 1 (clear hK K)); apply hK) | ((iterate 2 (clear hK K)); apply hK) | ((iterate 3 (clear hK K)); apply hK) | ((iterate 4 (clear hK K)); apply hK) | ((iterate 5 (clear hK K)); apply hK)); clear hK K)
        refine Rnd.le (St.le_pick [(b, .ints .i64 [v])] ?_ ?_) (Rnd.sub (L.length - (i + 1)) (by omega) ((hI _ _).2 ⟨i + 1, _, _, rfl, by omega, (by rw [hsn]; exact .inr ⟨b, .ints .i64 [v], by simp [fresh_nil], rfl, rfl, rfl, rfl, rfl⟩), rfl⟩) (by repeat' (first | exact rfl | exact trivial | exact int_eq (by omega) | exact int_eq (by (rw [i64_wrap] <;> omega)) | constructor)))
        · repeat' (first | exact (fun x hx => (List.not_mem_nil hx).elim) | refine List.forall_mem_cons.2 ⟨?_, ?_⟩ | exact List.mem_cons_self | apply List.mem_cons_of_mem)
        · simp [fresh_cons, fresh_nil, hD]
      · refine Ab.SW.le (hle _) ?_
        repeat' first | (with_reducible refine And.intro (by omega) ?_) | (refine SW.seq_k fun K hK => ?_) | (refine SW.block ?_) | ((first | refine SW.region ?_ | refine SW.regionD (Checked.mixed Tryd.checked) (by kernel_rfl) ?_ | refine SW.cond ?_ | refine SW.skip ?_ | refine SW.exit ?_ | refine SW.ret ?_ | (refine allF_i fun b hb => ?_; replace hD := And.intro hb hD; clear hb; try simp only [fresh_cons, fresh_nil, and_true, ne_eq, neF] at hD) | simp only [appK, appOsK]); try simp only [go_sem, hD, hli, ie, i0, w1, tf, t0, l1, ba, true_implies, e0]) | (refine And.intro (by omega) ?_) | (refine ifI (fun hc => ?_) (fun hc => ?_) <;> first | (exfalso; omega) | skip) | ((first | apply hK | ((iterate 1 (clear hK K)); apply hK) | ((iterate 2 (clear hK K)); apply hK) | ((iterate 3 (clear hK K)); apply hK) | ((iterate 4 (clear hK K)); apply hK) | ((iterate 5 (clear hK K)); apply hK)); clear hK K)
        refine Rnd.le (St.le_pick [(b, .svs (fC nC1 acc ++ nC1 v))] ?_ ?_) (Rnd.sub (L.length - (i + 1)) (by omega) ((hI _ _).2 ⟨i + 1, _, _, rfl, by omega, (by rw [hsn, List.length_append, ← fC_snoc]; exact Acc.osH (by simp [fresh_nil]) (by rw [List.length_append, ← e0]; simp [nC1])), rfl⟩) (by repeat' (first | exact rfl | exact trivial | exact int_eq (by omega) | exact int_eq (by (rw [i64_wrap] <;> omega)) | constructor)))
        · repeat' (first | exact (fun x hx => (List.not_mem_nil hx).elim) | refine List.forall_mem_cons.2 ⟨?_, ?_⟩ | exact List.mem_cons_self | apply List.mem_cons_of_mem)
        · simp [fresh_cons, fresh_nil, hD]
    · have hvo : givOf (u, fr, a, c) = none := if_neg hu
      rw [hvo] at hsn
      simp only [List.append_nil] at hsn
      rw [← hsn] at hB
      have hf2 : ¬ (u = 1 ∧ ((fr.length : Nat) : Int) = 1) := fun h => hu ⟨h.1, by omega⟩
      rcases hB.casesH with ⟨e0, e1, rfl, rfl⟩ | ⟨g, hgf, e0, rfl, hle⟩
      · by_cases hu1 : u = 1
        · have hfl : ¬ ((fr.length : Nat) : Int) = 1 := fun h => hf2 ⟨hu1, h⟩
          subst hu1
          repeat' first | (with_reducible refine And.intro (by omega) ?_) | (refine SW.seq_k fun K hK => ?_) | (refine SW.block ?_) | ((first | refine SW.region ?_ | refine SW.regionD (Checked.mixed Tryd.checked) (by kernel_rfl) ?_ | refine SW.cond ?_ | refine SW.skip ?_ | refine SW.exit ?_ | refine SW.ret ?_ | (refine allF_i fun b hb => ?_; replace hD := And.intro hb hD; clear hb; try simp only [fresh_cons, fresh_nil, and_true, ne_eq, neF] at hD) | simp only [appK, appOsK]); try simp only [go_sem, hD, hli, ie, i0, w1, tf, hfl]) | (refine And.intro (by omega) ?_) | (refine ifI (fun hc => ?_) (fun hc => ?_) <;> first | (exfalso; omega) | skip) | ((first | apply hK | ((iterate 1 (clear hK K)); apply hK) | ((iterate 2 (clear hK K)); apply hK) | ((iterate 3 (clear hK K)); apply hK) | ((iterate 4 (clear hK K)); apply hK) | ((iterate 5 (clear hK K)); apply hK)); clear hK K)
          refine Rnd.le St.le_drop (Rnd.sub (L.length - (i + 1)) (by omega) ((hI _ _).2 ⟨i + 1, _, _, rfl, by omega, hB, rfl⟩) (by repeat' (first | exact rfl | exact trivial | exact int_eq (by omega) | exact int_eq (by (rw [i64_wrap] <;> omega)) | constructor)))
        · repeat' first | (with_reducible refine And.intro (by omega) ?_) | (refine SW.seq_k fun K hK => ?_) | (refine SW.block ?_) | ((first | refine SW.region ?_ | refine SW.regionD (Checked.mixed Tryd.checked) (by kernel_rfl) ?_ | refine SW.cond ?_ | refine SW.skip ?_ | refine SW.exit ?_ | refine SW.ret ?_ | (refine allF_i fun b hb => ?_; replace hD := And.intro hb hD; clear hb; try simp only [fresh_cons, fresh_nil, and_true, ne_eq, neF] at hD) | simp only [appK, appOsK]); try simp only [go_sem, hD, hli, ie, i0, w1, tf, hu1]) | (refine And.intro (by omega) ?_) | (refine ifI (fun hc => ?_) (fun hc => ?_) <;> first | (exfalso; omega) | skip) | ((first | apply hK | ((iterate 1 (clear hK K)); apply hK) | ((iterate 2 (clear hK K)); apply hK) | ((iterate 3 (clear hK K)); apply hK) | ((iterate 4 (clear hK K)); apply hK) | ((iterate 5 (clear hK K)); apply hK)); clear hK K)
          refine Rnd.le St.le_drop (Rnd.sub (L.length - (i + 1)) (by omega) ((hI _ _).2 ⟨i + 1, _, _, rfl, by omega, hB, rfl⟩) (by repeat' (first | exact rfl | exact trivial | exact int_eq (by omega) | exact int_eq (by (rw [i64_wrap] <;> omega)) | constructor)))
      · refine Ab.SW.le (hle _) ?_
        have hB2 : Acc 1 (.os g 0 (valsS (L.take (i + 1))).length 1) [(g, .svs (fC nC1 (valsS (L.take (i + 1)))))] [] (valsS (L.take (i + 1))).length (fC nC1 (valsS (L.take (i + 1)))) := Acc.osH (by simp [fresh_nil]) e0
        by_cases hu1 : u = 1
        · have hfl : ¬ ((fr.length : Nat) : Int) = 1 := fun h => hf2 ⟨hu1, h⟩
          subst hu1
          repeat' first | (with_reducible refine And.intro (by omega) ?_) | (refine SW.seq_k fun K hK => ?_) | (refine SW.block ?_) | ((first | refine SW.region ?_ | refine SW.regionD (Checked.mixed Tryd.checked) (by kernel_rfl) ?_ | refine SW.cond ?_ | refine SW.skip ?_ | refine SW.exit ?_ | refine SW.ret ?_ | (refine allF_i fun b hb => ?_; replace hD := And.intro hb hD; clear hb; try simp only [fresh_cons, fresh_nil, and_true, ne_eq, neF] at hD) | simp only [appK, appOsK]); try simp only [go_sem, hD, hli, ie, i0, w1, tf, hfl]) | (refine And.intro (by omega) ?_) | (refine ifI (fun hc => ?_) (fun hc => ?_) <;> first | (exfalso; omega) | skip) | ((first | apply hK | ((iterate 1 (clear hK K)); apply hK) | ((iterate 2 (clear hK K)); apply hK) | ((iterate 3 (clear hK K)); apply hK) | ((iterate 4 (clear hK K)); apply hK) | ((iterate 5 (clear hK K)); apply hK)); clear hK K)
          refine Rnd.le (St.le_pick _ ?_ ?_) (Rnd.sub (L.length - (i + 1)) (by omega) ((hI _ _).2 ⟨i + 1, _, [(g, .svs (fC nC1 (valsS (L.take (i + 1)))))], rfl, by omega, hB2, rfl⟩) (by repeat' (first | exact rfl | exact trivial | exact int_eq (by omega) | exact int_eq (by (rw [i64_wrap] <;> omega)) | constructor)))
          · repeat' (first | exact (fun x hx => (List.not_mem_nil hx).elim) | refine List.forall_mem_cons.2 ⟨?_, ?_⟩ | exact List.mem_cons_self | apply List.mem_cons_of_mem)
          · simp [fresh_cons, fresh_nil, hD]
        · repeat' first | (with_reducible refine And.intro (by omega) ?_) | (refine SW.seq_k fun K hK => ?_) | (refine SW.block ?_) | ((first | refine SW.region ?_ | refine SW.regionD (Checked.mixed Tryd.checked) (by kernel_rfl) ?_ | refine SW.cond ?_ | refine SW.skip ?_ | refine SW.exit ?_ | refine SW.ret ?_ | (refine allF_i fun b hb => ?_; replace hD := And.intro hb hD; clear hb; try simp only [fresh_cons, fresh_nil, and_true, ne_eq, neF] at hD) | simp only [appK, appOsK]); try simp only [go_sem, hD, hli, ie, i0, w1, tf, hu1]) | (refine And.intro (by omega) ?_) | (refine ifI (fun hc => ?_) (fun hc => ?_) <;> first | (exfalso; omega) | skip) | ((first | apply hK | ((iterate 1 (clear hK K)); apply hK) | ((iterate 2 (clear hK K)); apply hK) | ((iterate 3 (clear hK K)); apply hK) | ((iterate 4 (clear hK K)); apply hK) | ((iterate 5 (clear hK K)); apply hK)); clear hK K)
          refine Rnd.le (St.le_pick _ ?_ ?_) (Rnd.sub (L.length - (i + 1)) (by omega) ((hI _ _).2 ⟨i + 1, _, [(g, .svs (fC nC1 (valsS (L.take (i + 1)))))], rfl, by omega, hB2, rfl⟩) (by repeat' (first | exact rfl | exact trivial | exact int_eq (by omega) | exact int_eq (by (rw [i64_wrap] <;> omega)) | constructor)))
          · repeat' (first | exact (fun x hx => (List.not_mem_nil hx).elim) | refine List.forall_mem_cons.2 ⟨?_, ?_⟩ | exact List.mem_cons_self | apply List.mem_cons_of_mem)
          · simp [fresh_cons, fresh_nil, hD]
  · have hli : ¬ ((i : Nat) : Int) < (((L.length) : Nat) : Int) := by omega
    obtain rfl : i = L.length := by omega
    rw [List.take_length] at hB
    generalize valsS L = acc at *
    rcases hB.casesH with ⟨e0, e1, rfl, rfl⟩ | ⟨g, hgf, e0, rfl, hle⟩
    · have hLn : acc = [] := List.eq_nil_of_length_eq_zero e0
      subst hLn
      have e2 : srtI [] = [] := by simp [srtI]
      rw [e2] at cp ⊢
      repeat' first | (with_reducible refine And.intro (by omega) ?_) | (refine SW.seq_k fun K hK => ?_) | (refine SW.block ?_) | ((first | refine SW.region ?_ | refine SW.regionD (Checked.mixed Tryd.checked) (by kernel_rfl) ?_ | refine SW.cond ?_ | refine SW.skip ?_ | refine SW.exit ?_ | refine SW.ret ?_ | refine Call.of_pure (sort_i0) ?_ | refine ⟨_, sort_i0, ?_⟩ | (refine allF_i fun b hb => ?_; replace hD := And.intro hb hD; clear hb; try simp only [fresh_cons, fresh_nil, and_true, ne_eq, neF] at hD) | simp only [appK, appOsK]); try simp only [go_sem, hD, hli]) | (refine And.intro (by omega) ?_) | (refine ifI (fun hc => ?_) (fun hc => ?_) <;> first | (exfalso; omega) | skip) | ((first | apply hK | ((iterate 1 (clear hK K)); apply hK) | ((iterate 2 (clear hK K)); apply hK) | ((iterate 3 (clear hK K)); apply hK) | ((iterate 4 (clear hK K)); apply hK) | ((iterate 5 (clear hK K)); apply hK)); clear hK K)
      refine Call.nil_ints 0 .i64 (by simp) rfl (Call.of_pure cp ?_)
      (first | apply hK | ((iterate 1 (clear hK K)); apply hK) | ((iterate 2 (clear hK K)); apply hK) | ((iterate 3 (clear hK K)); apply hK) | ((iterate 4 (clear hK K)); apply hK) | ((iterate 5 (clear hK K)); apply hK)); clear hK K
      repeat' first | (with_reducible refine And.intro (by omega) ?_) | (refine SW.seq_k fun K hK => ?_) | (refine SW.block ?_) | ((first | refine SW.region ?_ | refine SW.regionD (Checked.mixed Tryd.checked) (by kernel_rfl) ?_ | refine SW.cond ?_ | refine SW.skip ?_ | refine SW.exit ?_ | refine SW.ret ?_ | (refine allF_i fun b hb => ?_; replace hD := And.intro hb hD; clear hb; try simp only [fresh_cons, fresh_nil, and_true, ne_eq, neF] at hD) | simp only [appK, appOsK]); try simp only [go_sem, hD]) | (refine And.intro (by omega) ?_) | (refine ifI (fun hc => ?_) (fun hc => ?_) <;> first | (exfalso; omega) | skip) | ((first | apply hK | ((iterate 1 (clear hK K)); apply hK) | ((iterate 2 (clear hK K)); apply hK) | ((iterate 3 (clear hK K)); apply hK) | ((iterate 4 (clear hK K)); apply hK) | ((iterate 5 (clear hK K)); apply hK)); clear hK K)
      refine ret_pure ?_; simp only [resL_tmp, resL_nil, tupOf, go_sem, hD]
      rw [e2]
    · refine Ab.SW.le (hle _) ?_
      repeat' first | (with_reducible refine And.intro (by omega) ?_) | (refine SW.seq_k fun K hK => ?_) | (refine SW.block ?_) | ((first | refine SW.region ?_ | refine SW.regionD (Checked.mixed Tryd.checked) (by kernel_rfl) ?_ | refine SW.cond ?_ | refine SW.skip ?_ | refine SW.exit ?_ | refine SW.ret ?_ | (refine allF_i fun b hb => ?_; replace hD := And.intro hb hD; clear hb; try simp only [fresh_cons, fresh_nil, and_true, ne_eq, neF] at hD) | simp only [appK, appOsK]); try simp only [go_sem, hD, hli]) | (refine And.intro (by omega) ?_) | (refine ifI (fun hc => ?_) (fun hc => ?_) <;> first | (exfalso; omega) | skip) | ((first | apply hK | ((iterate 1 (clear hK K)); apply hK) | ((iterate 2 (clear hK K)); apply hK) | ((iterate 3 (clear hK K)); apply hK) | ((iterate 4 (clear hK K)); apply hK) | ((iterate 5 (clear hK K)); apply hK)); clear hK K)
      refine Call.mono (sort_i g acc (by omega)) ?_
      intro r h' hx
      obtain ⟨rfl, rfl⟩ := hx
      (first | apply hK | ((iterate 1 (clear hK K)); apply hK) | ((iterate 2 (clear hK K)); apply hK) | ((iterate 3 (clear hK K)); apply hK) | ((iterate 4 (clear hK K)); apply hK) | ((iterate 5 (clear hK K)); apply hK)); clear hK K
      repeat' first | (with_reducible refine And.intro (by omega) ?_) | (refine SW.seq_k fun K hK => ?_) | (refine SW.block ?_) | ((first | refine SW.region ?_ | refine SW.regionD (Checked.mixed Tryd.checked) (by kernel_rfl) ?_ | refine SW.cond ?_ | refine SW.skip ?_ | refine SW.exit ?_ | refine SW.ret ?_ | (refine allF_i fun b hb => ?_; replace hD := And.intro hb hD; clear hb; try simp only [fresh_cons, fresh_nil, and_true, ne_eq, neF] at hD) | simp only [appK, appOsK]); try simp only [go_sem, hD]) | (refine And.intro (by omega) ?_) | (refine ifI (fun hc => ?_) (fun hc => ?_) <;> first | (exfalso; omega) | skip) | ((first | apply hK | ((iterate 1 (clear hK K)); apply hK) | ((iterate 2 (clear hK K)); apply hK) | ((iterate 3 (clear hK K)); apply hK) | ((iterate 4 (clear hK K)); apply hK) | ((iterate 5 (clear hK K)); apply hK)); clear hK K)
      refine Call.freeze_ints 0 .i64 (srtI acc) (by simp) rfl (by rw [srtI_len]) (by rw [find_cons, if_pos rfl]) (by exact (ints_fC _).symm) ?_
      rw [del_head]
      refine Call.of_pure cp ?_
      (first | apply hK | ((iterate 1 (clear hK K)); apply hK) | ((iterate 2 (clear hK K)); apply hK) | ((iterate 3 (clear hK K)); apply hK) | ((iterate 4 (clear hK K)); apply hK) | ((iterate 5 (clear hK K)); apply hK)); clear hK K
      repeat' first | (with_reducible refine And.intro (by omega) ?_) | (refine SW.seq_k fun K hK => ?_) | (refine SW.block ?_) | ((first | refine SW.region ?_ | refine SW.regionD (Checked.mixed Tryd.checked) (by kernel_rfl) ?_ | refine SW.cond ?_ | refine SW.skip ?_ | refine SW.exit ?_ | refine SW.ret ?_ | (refine allF_i fun b hb => ?_; replace hD := And.intro hb hD; clear hb; try simp only [fresh_cons, fresh_nil, and_true, ne_eq, neF] at hD) | simp only [appK, appOsK]); try simp only [go_sem, hD]) | (refine And.intro (by omega) ?_) | (refine ifI (fun hc => ?_) (fun hc => ?_) <;> first | (exfalso; omega) | skip) | ((first | apply hK | ((iterate 1 (clear hK K)); apply hK) | ((iterate 2 (clear hK K)); apply hK) | ((iterate 3 (clear hK K)); apply hK) | ((iterate 4 (clear hK K)); apply hK) | ((iterate 5 (clear hK K)); apply hK)); clear hK K)
      refine ret_pure ?_; simp only [resL_tmp, resL_nil, tupOf, go_sem, hD]
end Go.Proofs.YtmcmphmhjikgkaaDoor
