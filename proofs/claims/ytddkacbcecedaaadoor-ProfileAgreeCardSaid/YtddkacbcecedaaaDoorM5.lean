/- Several texts in one: J5, J6, W1, W2, T1. -/
import Derived.Test.YtddkacbcecedaaaDoorM4
import Derived.Test.YtddkacbcecedaaaDoorE3
import Derived.Test.YtddkacbcecedaaaDoorC3
import Derived.Test.YtddkacbcecedaaaDoorRows
import Derived.ProofKit
import Derived.LaidMore
import Derived.OpenShut
import Derived.Stop.Joined
/- Contracts: Column, Find, slices.Equal. -/
set_option linter.unusedSimpArgs false
set_option linter.unusedVariables false
set_option linter.unusedSectionVars false
namespace Go.Ab.A34
open Go Go.Ab Go.Proofs
def cellR (l : List Int) (j : Nat) : R3 := (((j + 1 : Nat) : Int), [(1, l.getD j 0, ⟨#[]⟩)])
/-- A table with one column of numbers. -/
def colT (l : List Int) : Tb := ⟨⟨#[114]⟩, [⟨#[97]⟩], (List.range l.length).map fun j => cellR l j⟩
end Go.Ab.A34
namespace Go.Proofs.YtddkacbcecedaaaDoor
open Go Go.Ab Go.Ab.A34
variable [Gl] [Tabs]

set_option maxHeartbeats 4000000 in
set_option maxRecDepth 20000 in
theorem col_r (l : List Int) (hl : l.length ≤ 1000) : PCall Tryd.prog 10 [NL l] (TB (colT l)) := by
  unfold colT
  refine Call.enter' (N := 28) (rs := [.cell 2 29]) Tryd.func10 rfl rfl rfl (by decide) rfl ?_; simp only [argT]; have hD : (0 : Nat) = 0 := rfl
  repeat' first | (with_reducible refine And.intro (by omega) ?_) | (refine SW.seq_k fun K hK => ?_) | (refine SW.block ?_) | ((first | refine SW.region ?_ | refine SW.regionD (Checked.mixed Tryd.checked) (by kernel_rfl) ?_ | refine SW.cond ?_ | refine SW.skip ?_ | refine SW.exit ?_ | refine SW.ret ?_ | (refine allF_i fun b hb => ?_; replace hD := And.intro hb hD; clear hb; try simp only [fresh_cons, fresh_nil, and_true, ne_eq, neF] at hD) | simp only [appK, appOsK]); try simp only [go_sem, hD]) | (refine And.intro (by omega) ?_) | (refine ifI (fun hc => ?_) (fun hc => ?_) <;> first | (exfalso; omega) | skip) | ((first | apply hK | ((iterate 1 (clear hK K)); apply hK) | ((iterate 2 (clear hK K)); apply hK) | ((iterate 3 (clear hK K)); apply hK) | ((iterate 4 (clear hK K)); apply hK) | ((iterate 5 (clear hK K)); apply hK)); clear hK K)
  obtain ⟨tb, rfl⟩ : ∃ x, x = b := ⟨_, rfl⟩
  obtain ⟨ab, rfl⟩ : ∃ x, x = b := ⟨_, rfl⟩
  obtain ⟨rb, rfl⟩ : ∃ x, x = b := ⟨_, rfl⟩
  have d1 : ¬ tb = rb := by simp [hD]
  have d2 : ¬ rb = tb := by simp [hD]
  have d5 : ¬ tb = ab := by simp [hD]
  apply Ab.SW.le
  · apply St.le_freezeC (c := tb) (j := 1) (b := ab) (off := 0) (sz := 1) (f := sF [⟨#[97]⟩])
    · rw [find_cons, if_pos rfl]
    · exact d5
    · show 1 < 3
      omega
    · rfl
    · simp [find_cons, d5, hD]; rfl
    · decide
    · intro p hp
      obtain rfl : p = 0 := by omega
      rfl
  simp only [go_sem, hD, d5]
  refine Ab.SW.le (St.le_pick [(tb, .svs [Str ⟨#[114]⟩, SL [⟨#[97]⟩], .sc (.slice none 0 0)]), (rb, .svs [Str ⟨#[]⟩, .sc (.slice none 0 0), .sc (.slice none 0 0)])] ?_ ?_) ?_
  · repeat' (first | exact (fun x hx => (List.not_mem_nil hx).elim) | refine List.forall_mem_cons.2 ⟨?_, ?_⟩ | exact List.mem_cons_self | apply List.mem_cons_of_mem)
  · simp [fresh_cons, fresh_nil, hD]
  clear hD
  have hD := And.intro (eq_false d1) (eq_false d2)
  obtain ⟨I, hI⟩ : ∃ I : Nat → St → Prop, ∀ k S, I k S ↔ (∃ (i : Nat) (h : Heap), k = l.length - i ∧ i ≤ l.length ∧ ((i = 0 ∧ h = [(tb, .svs [Str ⟨#[114]⟩, SL [⟨#[97]⟩], .sc (.slice none 0 0)]), (rb, .svs [Str ⟨#[]⟩, .sc (.slice none 0 0), .sc (.slice none 0 0)])]) ∨ (0 < i ∧ ∃ g, ¬ g = tb ∧ ¬ tb = g ∧ ¬ g = rb ∧ ¬ rb = g ∧ h = [(g, .svs (fC rC ((List.range i).map fun j => cellR l j))), (tb, .svs [Str ⟨#[114]⟩, SL [⟨#[97]⟩], .os g 0 i 2]), (rb, .svs [Str ⟨#[]⟩, .sc (.slice none 0 0), .sc (.slice none 0 0)])])) ∧ S = ⟨[(0, NL l), (2, .op rb 0), (3, .op tb 0), (4, I64 i)], h⟩) := ⟨fun k S => _, fun _ _ => Iff.rfl⟩
  refine SW.loop' I (l.length) ((hI _ _).2 ⟨0, _, rfl, Nat.zero_le _, .inl ⟨rfl, rfl⟩, rfl⟩) (by repeat' (first | exact rfl | exact trivial | exact int_eq (by omega) | exact int_eq (by (rw [i64_wrap] <;> omega)) | constructor)) ?_
  intro k S hIn
  obtain ⟨i, h, rfl, hi, hB, rfl⟩ := (hI _ _).1 hIn
  clear hIn
  have ie : ((i : Nat) : Int).toNat = i := Int.toNat_natCast _
  have i0 : (0 : Int) ≤ ((i : Nat) : Int) := by omega
  have hsl : ((List.range i).map fun j => cellR l j).length = i := by simp
  by_cases hlt : i < l.length
  · have hli : ((i : Nat) : Int) < (((l.length) : Nat) : Int) := by omega
    have w1 : IntKind.i64.wrap ((i : Int) + 1) = ((i + 1 : Nat) : Int) := by rw [i64_wrap (by omega) (by omega)]; omega
    have ba : (i + 1) * 32 ≤ 140737488355328 := by omega
    have hmp : ((List.range (i + 1)).map fun j => cellR l j) = ((List.range i).map fun j => cellR l j) ++ [cellR l i] := by rw [List.range_succ, List.map_append]; rfl
    have hce : cellR l i = (((i + 1 : Nat) : Int), [(1, l.getD i 0, ⟨#[]⟩)]) := rfl
    generalize ((List.range i).map fun j => cellR l j) = Li at *
    obtain ⟨z, hz⟩ : ∃ z, l.getD i 0 = z := ⟨_, rfl⟩
    rw [hz] at hce
    rcases hB with ⟨hi0, rfl⟩ | ⟨hi0, g, u1, u2, u3, u4, rfl⟩
    · have hLn : Li = [] := List.eq_nil_of_length_eq_zero (by omega)
      subst hLn
      repeat' first | (with_reducible refine And.intro (by omega) ?_) | (refine SW.seq_k fun K hK => ?_) | (refine SW.block ?_) | ((first | refine SW.region ?_ | refine SW.regionZ (id := 5) (Checked.mixed Tryd.checked) ((.one 0 [0, 1, 12, 13, 14] (.one 1 [1, 12, 13, 14] (.one 2 [2, 3, 10, 11, 12, 13, 14] (.one 3 [3, 10, 11, 12, 13, 14] (.one 4 [4, 6, 7, 8, 9, 10, 11, 12, 13, 14] (.one 5 [5, 6, 7, 8, 9, 10, 11, 12, 13, 14] (.one 6 [6, 7, 8, 9, 10, 11, 12, 13, 14] (.one 7 [7, 8, 9, 10, 11, 12, 13, 14] (.one 8 [8, 9, 10, 11, 12, 13, 14] (.alt 9 (.one 10 [10, 11, 12, 13, 14] (.alt 11 (.alt 12 (.one 13 [13, 14] (.alt 14 .done .nil)) .nil) .nil)) .nil)))))))))) : OZ) (by kernel_rfl) ?_ | refine SW.regionD (Checked.mixed Tryd.checked) (by kernel_rfl) ?_ | refine SW.cond ?_ | refine SW.skip ?_ | refine SW.exit ?_ | refine SW.ret ?_ | (refine allF_i fun b hb => ?_; replace hD := And.intro hb hD; clear hb; try simp only [fresh_cons, fresh_nil, and_true, ne_eq, neF] at hD) | simp only [appK, appOsK]); try simp only [go_sem, hD, hli, ie, i0, w1, ba, hz, true_implies]) | (refine And.intro (by omega) ?_) | (refine ifI (fun hc => ?_) (fun hc => ?_) <;> first | (exfalso; omega) | skip) | ((first | apply hK | ((iterate 1 (clear hK K)); apply hK) | ((iterate 2 (clear hK K)); apply hK) | ((iterate 3 (clear hK K)); apply hK) | ((iterate 4 (clear hK K)); apply hK) | ((iterate 5 (clear hK K)); apply hK)); clear hK K) | (refine And.intro ?_ ?_)
      all_goals
        subst hi0
        obtain ⟨nb, rfl⟩ : ∃ x, x = b := ⟨_, rfl⟩
        obtain ⟨lb, rfl⟩ : ∃ x, x = b := ⟨_, rfl⟩
        obtain ⟨vb, rfl⟩ : ∃ x, x = b := ⟨_, rfl⟩
        have e1 : ¬ nb = vb := by simp [hD]
        have e2 : ¬ vb = nb := by simp [hD]
        have e3 : ¬ vb = tb := by simp [hD]
        have e4 : ¬ vb = rb := by simp [hD]
        have e5 : ¬ nb = tb := by simp [hD]
        have e6 : ¬ nb = rb := by simp [hD]
        have st : ∀ t, (St.mk t [(nb, .svs [I64 (0 + 1 : Nat), .os vb 0 1 3]), (vb, .svs [I64 1, I64 z, Str ⟨#[]⟩]), (tb, .svs [Str ⟨#[114]⟩, SL [⟨#[97]⟩], .os nb 0 1 2]), (rb, .svs [Str ⟨#[]⟩, .sc (.slice none 0 0), .sc (.slice none 0 0)])]).le ⟨t, [(nb, .svs (fC rC ([] ++ [cellR l 0]))), (tb, .svs [Str ⟨#[114]⟩, SL [⟨#[97]⟩], .os nb 0 1 2]), (rb, .svs [Str ⟨#[]⟩, .sc (.slice none 0 0), .sc (.slice none 0 0)])]⟩ := fun t => by
          have := St.le_freezeC (t := t) (h := [(nb, .svs [I64 (0 + 1 : Nat), .os vb 0 1 3]), (vb, .svs [I64 1, I64 z, Str ⟨#[]⟩]), (tb, .svs [Str ⟨#[114]⟩, SL [⟨#[97]⟩], .os nb 0 1 2]), (rb, .svs [Str ⟨#[]⟩, .sc (.slice none 0 0), .sc (.slice none 0 0)])]) (c := nb) (j := 1) (b := vb) (off := 0) (sz := 3) (len := 1) (k := .svs [I64 1, I64 z, Str ⟨#[]⟩]) (by rw [find_cons, if_pos rfl]) e1 (by show 1 < 2; omega) rfl (by rw [find_cons, if_neg e1, find_cons, if_pos rfl]) (Nat.le_refl 3) (vF [(1, z, ⟨#[]⟩)]) (fun p hp => by have e : p = 0 := (by omega); subst e; rfl)
          simp only [del_cons, upd_cons, if_neg e1, if_pos] at this
          rw [hce]
          exact this
        refine Rnd.le ((St.le_pick [(nb, .svs [I64 (0 + 1 : Nat), .os vb 0 1 3]), (vb, .svs [I64 1, I64 z, Str ⟨#[]⟩]), (tb, .svs [Str ⟨#[114]⟩, SL [⟨#[97]⟩], .os nb 0 1 2]), (rb, .svs [Str ⟨#[]⟩, .sc (.slice none 0 0), .sc (.slice none 0 0)])] ?_ ?_).trans (st _)) ?_
        · repeat' (first | exact (fun x hx => (List.not_mem_nil hx).elim) | refine List.forall_mem_cons.2 ⟨?_, ?_⟩ | exact List.mem_cons_self | apply List.mem_cons_of_mem)
        · simp [fresh_cons, fresh_nil, hD]
        refine Rnd.sub (l.length - (0 + 1)) (by omega) ((hI _ _).2 ⟨0 + 1, _, rfl, by omega, .inr ⟨by omega, nb, e5, by simp [hD], e6, by simp [hD], by rw [hmp]⟩, rfl⟩) (by repeat' (first | exact rfl | exact trivial | exact int_eq (by omega) | exact int_eq (by (rw [i64_wrap] <;> omega)) | constructor))
    · have hD := And.intro (And.intro (eq_false u1) (eq_false u2)) (And.intro (And.intro (eq_false u3) (eq_false u4)) hD)
      have hfc : (fC rC Li).length = i * 2 := by rw [← fC_len (enc := rC) (k := 2) (fun _ => rfl), hsl]
      repeat' first | (with_reducible refine And.intro (by omega) ?_) | (refine SW.seq_k fun K hK => ?_) | (refine SW.block ?_) | ((first | refine SW.region ?_ | refine SW.regionZ (id := 5) (Checked.mixed Tryd.checked) ((.one 0 [0, 1, 12, 13, 14] (.one 1 [1, 12, 13, 14] (.one 2 [2, 3, 10, 11, 12, 13, 14] (.one 3 [3, 10, 11, 12, 13, 14] (.one 4 [4, 6, 7, 8, 9, 10, 11, 12, 13, 14] (.one 5 [5, 6, 7, 8, 9, 10, 11, 12, 13, 14] (.one 6 [6, 7, 8, 9, 10, 11, 12, 13, 14] (.one 7 [7, 8, 9, 10, 11, 12, 13, 14] (.one 8 [8, 9, 10, 11, 12, 13, 14] (.alt 9 (.one 10 [10, 11, 12, 13, 14] (.alt 11 (.alt 12 (.one 13 [13, 14] (.alt 14 .done .nil)) .nil) .nil)) .nil)))))))))) : OZ) (by kernel_rfl) ?_ | refine SW.regionD (Checked.mixed Tryd.checked) (by kernel_rfl) ?_ | refine SW.cond ?_ | refine SW.skip ?_ | refine SW.exit ?_ | refine SW.ret ?_ | (refine allF_i fun b hb => ?_; replace hD := And.intro hb hD; clear hb; try simp only [fresh_cons, fresh_nil, and_true, ne_eq, neF] at hD) | simp only [appK, appOsK]); try simp only [go_sem, hD, hli, ie, i0, w1, ba, hz, hfc, true_implies]) | (refine And.intro (by omega) ?_) | (refine ifI (fun hc => ?_) (fun hc => ?_) <;> first | (exfalso; omega) | skip) | ((first | apply hK | ((iterate 1 (clear hK K)); apply hK) | ((iterate 2 (clear hK K)); apply hK) | ((iterate 3 (clear hK K)); apply hK) | ((iterate 4 (clear hK K)); apply hK) | ((iterate 5 (clear hK K)); apply hK)); clear hK K) | (refine And.intro ?_ ?_)
      all_goals
        obtain ⟨nb, rfl⟩ : ∃ x, x = b := ⟨_, rfl⟩
        obtain ⟨lb, rfl⟩ : ∃ x, x = b := ⟨_, rfl⟩
        obtain ⟨vb, rfl⟩ : ∃ x, x = b := ⟨_, rfl⟩
        have e1 : ¬ nb = vb := by simp [hD]
        have e2 : ¬ vb = nb := by simp [hD]
        have e3 : ¬ vb = tb := by simp [hD]
        have e4 : ¬ vb = rb := by simp [hD]
        have e5 : ¬ nb = tb := by simp [hD]
        have e6 : ¬ nb = rb := by simp [hD]
        have st : ∀ t, (St.mk t [(nb, .svs (fC rC Li ++ [I64 (i + 1 : Nat), .os vb 0 1 3])), (vb, .svs [I64 1, I64 z, Str ⟨#[]⟩]), (tb, .svs [Str ⟨#[114]⟩, SL [⟨#[97]⟩], .os nb 0 (i + 1) 2]), (rb, .svs [Str ⟨#[]⟩, .sc (.slice none 0 0), .sc (.slice none 0 0)])]).le ⟨t, [(nb, .svs (fC rC (Li ++ [cellR l i]))), (tb, .svs [Str ⟨#[114]⟩, SL [⟨#[97]⟩], .os nb 0 (i + 1) 2]), (rb, .svs [Str ⟨#[]⟩, .sc (.slice none 0 0), .sc (.slice none 0 0)])]⟩ := fun t => by
          have := St.le_freezeC (t := t) (h := [(nb, .svs (fC rC Li ++ [I64 (i + 1 : Nat), .os vb 0 1 3])), (vb, .svs [I64 1, I64 z, Str ⟨#[]⟩]), (tb, .svs [Str ⟨#[114]⟩, SL [⟨#[97]⟩], .os nb 0 (i + 1) 2]), (rb, .svs [Str ⟨#[]⟩, .sc (.slice none 0 0), .sc (.slice none 0 0)])]) (c := nb) (j := i * 2 + 1) (b := vb) (off := 0) (sz := 3) (len := 1) (k := .svs [I64 1, I64 z, Str ⟨#[]⟩]) (by rw [find_cons, if_pos rfl]) e1 (by rw [List.length_append, hfc]; show i * 2 + 1 < i * 2 + 2; omega) (by rw [List.getD_eq_getElem?_getD, List.getElem?_append_right (by omega), hfc, Nat.add_sub_cancel_left]; rfl) (by rw [find_cons, if_neg e1, find_cons, if_pos rfl]) (Nat.le_refl 3) (vF [(1, z, ⟨#[]⟩)]) (fun p hp => by have e : p = 0 := (by omega); subst e; rfl)
          simp only [del_cons, upd_cons, if_neg e1, if_pos] at this
          rw [List.set_append_right _ _ (by omega), hfc, Nat.add_sub_cancel_left] at this
          rw [hce, ← fC_snoc]
          exact this
        refine Rnd.le ((St.le_pick [(nb, .svs (fC rC Li ++ [I64 (i + 1 : Nat), .os vb 0 1 3])), (vb, .svs [I64 1, I64 z, Str ⟨#[]⟩]), (tb, .svs [Str ⟨#[114]⟩, SL [⟨#[97]⟩], .os nb 0 (i + 1) 2]), (rb, .svs [Str ⟨#[]⟩, .sc (.slice none 0 0), .sc (.slice none 0 0)])] ?_ ?_).trans (st _)) ?_
        · repeat' (first | exact (fun x hx => (List.not_mem_nil hx).elim) | refine List.forall_mem_cons.2 ⟨?_, ?_⟩ | exact List.mem_cons_self | apply List.mem_cons_of_mem)
        · simp [fresh_cons, fresh_nil, hD]
        refine Rnd.sub (l.length - (i + 1)) (by omega) ((hI _ _).2 ⟨i + 1, _, rfl, by omega, .inr ⟨by omega, nb, e5, by simp [hD], e6, by simp [hD], by rw [hmp]⟩, rfl⟩) (by repeat' (first | exact rfl | exact trivial | exact int_eq (by omega) | exact int_eq (by (rw [i64_wrap] <;> omega)) | constructor))
  · have hli : ¬ ((i : Nat) : Int) < (((l.length) : Nat) : Int) := by omega
    obtain rfl : i = l.length := by omega
    have hce : ∀ t : Tb, TB t = .agg [Str t.name, SL t.attrs, RL t.rows] := fun _ => rfl
    generalize ((List.range l.length).map fun j => cellR l j) = Li at *
    apply Ab.SW.le (S' := ⟨[(0, NL l), (2, .op rb 0), (3, .op tb 0), (4, I64 l.length)], [(tb, .svs [Str ⟨#[114]⟩, SL [⟨#[97]⟩], RL Li]), (rb, .svs [Str ⟨#[]⟩, .sc (.slice none 0 0), .sc (.slice none 0 0)])]⟩)
    · rcases hB with ⟨hi0, rfl⟩ | ⟨hi0, g, u1, u2, u3, u4, rfl⟩
      · have hLn : Li = [] := List.eq_nil_of_length_eq_zero (by omega)
        subst hLn
        have := St.le_nilC (t := [(0, NL l), (2, .op rb 0), (3, .op tb 0), (4, I64 l.length)]) (h := [(tb, .svs [Str ⟨#[114]⟩, SL [⟨#[97]⟩], .sc (.slice none 0 0)]), (rb, .svs [Str ⟨#[]⟩, .sc (.slice none 0 0), .sc (.slice none 0 0)])]) (c := tb) (j := 2) (sz := 2) (f := rF []) (by rw [find_cons, if_pos rfl]) (by show 2 < 3; omega) rfl
        rw [upd_cons, if_pos rfl] at this
        exact this
      · have := St.le_accC (t := [(0, NL l), (2, .op rb 0), (3, .op tb 0), (4, I64 l.length)]) (sz := 2) (n := l.length) (c := tb) (j := 2) (Acc.osH (b := g) (cs := fC rC Li) (h0 := [(tb, .svs [Str ⟨#[114]⟩, SL [⟨#[97]⟩], .os g 0 l.length 2]), (rb, .svs [Str ⟨#[]⟩, .sc (.slice none 0 0), .sc (.slice none 0 0)])]) (by simp [fresh_cons, fresh_nil, u1, u2, u3, u4]) (by rw [← fC_len (k := 2) (fun _ => rfl), hsl])) (by rw [find_cons, if_pos rfl]) (by show 2 < 3; omega) rfl (rF Li) (fun j hj => fC_at (enc := rC) (k := 2) (fun _ => rfl) r0 Li j (by omega))
        rw [upd_cons, if_pos rfl] at this
        unfold RL
        rw [hsl]
        exact this
    · repeat' first | (with_reducible refine And.intro (by omega) ?_) | (refine SW.seq_k fun K hK => ?_) | (refine SW.block ?_) | ((first | refine SW.region ?_ | refine SW.regionD (Checked.mixed Tryd.checked) (by kernel_rfl) ?_ | refine SW.cond ?_ | refine SW.skip ?_ | refine SW.exit ?_ | refine SW.ret ?_ | (refine allF_i fun b hb => ?_; replace hD := And.intro hb hD; clear hb; try simp only [fresh_cons, fresh_nil, and_true, ne_eq, neF] at hD) | simp only [appK, appOsK]); try simp only [go_sem, hD, hli, true_implies]) | (refine And.intro (by omega) ?_) | (refine ifI (fun hc => ?_) (fun hc => ?_) <;> first | (exfalso; omega) | skip) | ((first | apply hK | ((iterate 1 (clear hK K)); apply hK) | ((iterate 2 (clear hK K)); apply hK) | ((iterate 3 (clear hK K)); apply hK) | ((iterate 4 (clear hK K)); apply hK) | ((iterate 5 (clear hK K)); apply hK)); clear hK K)
      apply ret_cell (i := 2) (n := 3); exact rfl; (simp only [go_sem, hD]; try rfl); (first | exact Nat.le_refl _ | decide); simp only [resL_tmp, resL_cellE, resC_ok, resL_nil, tupOf, getN, go_sem, hD]

/-- Where a row stands. -/
def findI (id : Int) : Nat → List R3 → Option Nat
  | _, [] => none
  | i, r :: l => if r.1 = id then some i else findI id (i + 1) l
theorem findI_step {id : Int} {l : List R3} {i : Nat} (h : i < l.length) : findI id i (l.drop i) = if (l.getD i r0).1 = id then some i else findI id (i + 1) (l.drop (i + 1)) := by
  have g : l.getD i r0 = l[i] := by simp [List.getD_eq_getElem?_getD, h]
  rw [List.drop_eq_getElem_cons h, g]
  rfl
def findS (o : Option Nat) : SV := match o with
  | some i => .tup [I64 i, SB true]
  | none => .tup [I64 0, SB false]
theorem find_r (t : Tb) (id : Int) (hl : t.rows.length ≤ 1000000) : PCall Tryd.prog 15 [TB t, I64 id] (findS (findI id 0 t.rows)) := by
  obtain ⟨R, hR⟩ : ∃ R, R = findI id 0 t.rows := ⟨_, rfl⟩
  rw [← hR]
  obtain ⟨nm, ats, l⟩ := t
  simp only at hl hR
  refine Call.enter' (N := 23) (rs := [.tmp 4, .tmp 5]) Tryd.func15 rfl rfl rfl (by decide) rfl ?_; simp only [argT]; have hD : (0 : Nat) = 0 := rfl
  repeat' first | (with_reducible refine And.intro (by omega) ?_) | (refine SW.seq_k fun K hK => ?_) | (refine SW.block ?_) | ((first | refine SW.region ?_ | refine SW.regionD (Checked.mixed Tryd.checked) (by kernel_rfl) ?_ | refine SW.cond ?_ | refine SW.skip ?_ | refine SW.exit ?_ | refine SW.ret ?_ | (refine allF_i fun b hb => ?_; replace hD := And.intro hb hD; clear hb; try simp only [fresh_cons, fresh_nil, and_true, ne_eq, neF] at hD) | simp only [appK, appOsK]); try simp only [go_sem, hD]) | (refine And.intro (by omega) ?_) | (refine ifI (fun hc => ?_) (fun hc => ?_) <;> first | (exfalso; omega) | skip) | ((first | apply hK | ((iterate 1 (clear hK K)); apply hK) | ((iterate 2 (clear hK K)); apply hK) | ((iterate 3 (clear hK K)); apply hK) | ((iterate 4 (clear hK K)); apply hK) | ((iterate 5 (clear hK K)); apply hK)); clear hK K)
  obtain ⟨I, hI⟩ : ∃ I : Nat → St → Prop, ∀ k S, I k S ↔ (∃ (i : Nat) , k = l.length - i ∧ i ≤ l.length ∧ R = findI id i (l.drop i) ∧ S = ⟨[(1, I64 id), (2, .op b 0), (6, I64 i)], [(b, .svs [Str nm, SL ats, RL l])]⟩) := ⟨fun k S => _, fun _ _ => Iff.rfl⟩
  refine SW.loop' I (l.length) ((hI _ _).2 ⟨0, rfl, Nat.zero_le _, hR, rfl⟩) (by repeat' (first | exact rfl | exact trivial | exact int_eq (by omega) | exact int_eq (by (rw [i64_wrap] <;> omega)) | constructor)) ?_
  intro k S hIn
  obtain ⟨i, rfl, hi, hC, rfl⟩ := (hI _ _).1 hIn
  clear hIn
  have ie : ((i : Nat) : Int).toNat = i := Int.toNat_natCast _
  have i0 : (0 : Int) ≤ ((i : Nat) : Int) := by omega
  clear hR
  by_cases hlt : i < l.length
  · have hli : ((i : Nat) : Int) < (((l.length) : Nat) : Int) := by omega
    have w1 : IntKind.i64.wrap ((i : Int) + 1) = ((i + 1 : Nat) : Int) := by rw [i64_wrap (by omega) (by omega)]; omega
    rw [findI_step hlt] at hC
    obtain ⟨rid, vs, hr⟩ : ∃ id vs, l.getD i r0 = (id, vs) := ⟨_, _, rfl⟩
    have tf : rF l i = [I64 rid, VL vs] := by unfold rF; rw [hr]; rfl
    rw [hr] at hC
    simp only at hC
    by_cases he : rid = id
    · rw [if_pos he] at hC
      subst hC
      have he1 := eq_true he
      repeat' first | (with_reducible refine And.intro (by omega) ?_) | (refine SW.seq_k fun K hK => ?_) | (refine SW.block ?_) | ((first | refine SW.region ?_ | refine SW.regionD (Checked.mixed Tryd.checked) (by kernel_rfl) ?_ | refine SW.cond ?_ | refine SW.skip ?_ | refine SW.exit ?_ | refine SW.ret ?_ | (refine allF_i fun b hb => ?_; replace hD := And.intro hb hD; clear hb; try simp only [fresh_cons, fresh_nil, and_true, ne_eq, neF] at hD) | simp only [appK, appOsK]); try simp only [go_sem, hD, hli, ie, i0, w1, tf, he1]) | (refine And.intro (by omega) ?_) | (refine ifI (fun hc => ?_) (fun hc => ?_) <;> first | (exfalso; omega) | skip) | ((first | apply hK | ((iterate 1 (clear hK K)); apply hK) | ((iterate 2 (clear hK K)); apply hK) | ((iterate 3 (clear hK K)); apply hK) | ((iterate 4 (clear hK K)); apply hK) | ((iterate 5 (clear hK K)); apply hK)); clear hK K)
      refine ret_pure ?_; simp only [resL_tmp, resL_nil, tupOf, go_sem, hD]
      rfl
    · rw [if_neg he] at hC
      have he1 := eq_false he
      repeat' first | (with_reducible refine And.intro (by omega) ?_) | (refine SW.seq_k fun K hK => ?_) | (refine SW.block ?_) | ((first | refine SW.region ?_ | refine SW.regionD (Checked.mixed Tryd.checked) (by kernel_rfl) ?_ | refine SW.cond ?_ | refine SW.skip ?_ | refine SW.exit ?_ | refine SW.ret ?_ | (refine allF_i fun b hb => ?_; replace hD := And.intro hb hD; clear hb; try simp only [fresh_cons, fresh_nil, and_true, ne_eq, neF] at hD) | simp only [appK, appOsK]); try simp only [go_sem, hD, hli, ie, i0, w1, tf, he1]) | (refine And.intro (by omega) ?_) | (refine ifI (fun hc => ?_) (fun hc => ?_) <;> first | (exfalso; omega) | skip) | ((first | apply hK | ((iterate 1 (clear hK K)); apply hK) | ((iterate 2 (clear hK K)); apply hK) | ((iterate 3 (clear hK K)); apply hK) | ((iterate 4 (clear hK K)); apply hK) | ((iterate 5 (clear hK K)); apply hK)); clear hK K)
      refine Rnd.sub (l.length - (i + 1)) (by omega) ((hI _ _).2 ⟨i + 1, rfl, by omega, hC, rfl⟩) (by repeat' (first | exact rfl | exact trivial | exact int_eq (by omega) | exact int_eq (by (rw [i64_wrap] <;> omega)) | constructor))
  · have hli : ¬ ((i : Nat) : Int) < (((l.length) : Nat) : Int) := by omega
    rw [List.drop_of_length_le (by omega)] at hC
    have hC2 : R = none := hC
    subst hC2
    repeat' first | (with_reducible refine And.intro (by omega) ?_) | (refine SW.seq_k fun K hK => ?_) | (refine SW.block ?_) | ((first | refine SW.region ?_ | refine SW.regionD (Checked.mixed Tryd.checked) (by kernel_rfl) ?_ | refine SW.cond ?_ | refine SW.skip ?_ | refine SW.exit ?_ | refine SW.ret ?_ | (refine allF_i fun b hb => ?_; replace hD := And.intro hb hD; clear hb; try simp only [fresh_cons, fresh_nil, and_true, ne_eq, neF] at hD) | simp only [appK, appOsK]); try simp only [go_sem, hD, hli]) | (refine And.intro (by omega) ?_) | (refine ifI (fun hc => ?_) (fun hc => ?_) <;> first | (exfalso; omega) | skip) | ((first | apply hK | ((iterate 1 (clear hK K)); apply hK) | ((iterate 2 (clear hK K)); apply hK) | ((iterate 3 (clear hK K)); apply hK) | ((iterate 4 (clear hK K)); apply hK) | ((iterate 5 (clear hK K)); apply hK)); clear hK K)
    refine ret_pure ?_; simp only [resL_tmp, resL_nil, tupOf, go_sem, hD]
    rfl

theorem eqN_self (l : List Int) (hl : l.length ≤ 1000000) : PCall Tryd.prog 13 [NL l, NL l] (SB true) := by
  refine Call.enter' (N := 26) (rs := [.tmp 4]) Tryd.func13 rfl rfl rfl (by decide) rfl ?_; simp only [argT]; have hD : (0 : Nat) = 0 := rfl
  repeat' first | (with_reducible refine And.intro (by omega) ?_) | (refine SW.seq_k fun K hK => ?_) | (refine SW.block ?_) | ((first | refine SW.region ?_ | refine SW.regionD (Checked.mixed Tryd.checked) (by kernel_rfl) ?_ | refine SW.cond ?_ | refine SW.skip ?_ | refine SW.exit ?_ | refine SW.ret ?_ | (refine allF_i fun b hb => ?_; replace hD := And.intro hb hD; clear hb; try simp only [fresh_cons, fresh_nil, and_true, ne_eq, neF] at hD) | simp only [appK, appOsK]); try simp only [go_sem, hD]) | (refine And.intro (by omega) ?_) | (refine ifI (fun hc => ?_) (fun hc => ?_) <;> first | (exfalso; omega) | skip) | ((first | apply hK | ((iterate 1 (clear hK K)); apply hK) | ((iterate 2 (clear hK K)); apply hK) | ((iterate 3 (clear hK K)); apply hK) | ((iterate 4 (clear hK K)); apply hK) | ((iterate 5 (clear hK K)); apply hK)); clear hK K)
  obtain ⟨I, hI⟩ : ∃ I : Nat → St → Prop, ∀ k S, I k S ↔ (∃ (i : Nat) , k = l.length - i ∧ i ≤ l.length ∧ S = ⟨[(0, NL l), (1, NL l), (12, I64 l.length), (13, I64 i)], []⟩) := ⟨fun k S => _, fun _ _ => Iff.rfl⟩
  refine SW.loop' I (l.length) ((hI _ _).2 ⟨0, rfl, Nat.zero_le _, rfl⟩) (by repeat' (first | exact rfl | exact trivial | exact int_eq (by omega) | exact int_eq (by (rw [i64_wrap] <;> omega)) | constructor)) ?_
  intro k S hIn
  obtain ⟨i, rfl, hi, rfl⟩ := (hI _ _).1 hIn
  clear hIn
  have ie : ((i : Nat) : Int).toNat = i := Int.toNat_natCast _
  have i0 : (0 : Int) ≤ ((i : Nat) : Int) := by omega
  by_cases hlt : i < l.length
  · have hli : ((i : Nat) : Int) < (((l.length) : Nat) : Int) := by omega
    have w1 : IntKind.i64.wrap ((i : Int) + 1) = ((i + 1 : Nat) : Int) := by rw [i64_wrap (by omega) (by omega)]; omega
    repeat' first | (with_reducible refine And.intro (by omega) ?_) | (refine SW.seq_k fun K hK => ?_) | (refine SW.block ?_) | ((first | refine SW.region ?_ | refine SW.regionD (Checked.mixed Tryd.checked) (by kernel_rfl) ?_ | refine SW.cond ?_ | refine SW.skip ?_ | refine SW.exit ?_ | refine SW.ret ?_ | (refine allF_i fun b hb => ?_; replace hD := And.intro hb hD; clear hb; try simp only [fresh_cons, fresh_nil, and_true, ne_eq, neF] at hD) | simp only [appK, appOsK]); try simp only [go_sem, hD, hli, ie, i0, w1]) | (refine And.intro (by omega) ?_) | (refine ifI (fun hc => ?_) (fun hc => ?_) <;> first | (exfalso; omega) | skip) | ((first | apply hK | ((iterate 1 (clear hK K)); apply hK) | ((iterate 2 (clear hK K)); apply hK) | ((iterate 3 (clear hK K)); apply hK) | ((iterate 4 (clear hK K)); apply hK) | ((iterate 5 (clear hK K)); apply hK)); clear hK K)
    refine Rnd.sub (l.length - (i + 1)) (by omega) ((hI _ _).2 ⟨i + 1, rfl, by omega, rfl⟩) (by repeat' (first | exact rfl | exact trivial | exact int_eq (by omega) | exact int_eq (by (rw [i64_wrap] <;> omega)) | constructor))
  · have hli : ¬ ((i : Nat) : Int) < (((l.length) : Nat) : Int) := by omega
    repeat' first | (with_reducible refine And.intro (by omega) ?_) | (refine SW.seq_k fun K hK => ?_) | (refine SW.block ?_) | ((first | refine SW.region ?_ | refine SW.regionD (Checked.mixed Tryd.checked) (by kernel_rfl) ?_ | refine SW.cond ?_ | refine SW.skip ?_ | refine SW.exit ?_ | refine SW.ret ?_ | (refine allF_i fun b hb => ?_; replace hD := And.intro hb hD; clear hb; try simp only [fresh_cons, fresh_nil, and_true, ne_eq, neF] at hD) | simp only [appK, appOsK]); try simp only [go_sem, hD, hli]) | (refine And.intro (by omega) ?_) | (refine ifI (fun hc => ?_) (fun hc => ?_) <;> first | (exfalso; omega) | skip) | ((first | apply hK | ((iterate 1 (clear hK K)); apply hK) | ((iterate 2 (clear hK K)); apply hK) | ((iterate 3 (clear hK K)); apply hK) | ((iterate 4 (clear hK K)); apply hK) | ((iterate 5 (clear hK K)); apply hK)); clear hK K)
    refine ret_pure ?_; simp only [resL_tmp, resL_nil, tupOf, go_sem, hD]
theorem eqI_self (l : List Int) (hl : l.length ≤ 1000000) : PCall Tryd.prog 23 [NL l, NL l] (SB true) := by
  refine Call.enter' (N := 26) (rs := [.tmp 4]) Tryd.func23 rfl rfl rfl (by decide) rfl ?_; simp only [argT]; have hD : (0 : Nat) = 0 := rfl
  repeat' first | (with_reducible refine And.intro (by omega) ?_) | (refine SW.seq_k fun K hK => ?_) | (refine SW.block ?_) | ((first | refine SW.region ?_ | refine SW.regionD (Checked.mixed Tryd.checked) (by kernel_rfl) ?_ | refine SW.cond ?_ | refine SW.skip ?_ | refine SW.exit ?_ | refine SW.ret ?_ | (refine allF_i fun b hb => ?_; replace hD := And.intro hb hD; clear hb; try simp only [fresh_cons, fresh_nil, and_true, ne_eq, neF] at hD) | simp only [appK, appOsK]); try simp only [go_sem, hD]) | (refine And.intro (by omega) ?_) | (refine ifI (fun hc => ?_) (fun hc => ?_) <;> first | (exfalso; omega) | skip) | ((first | apply hK | ((iterate 1 (clear hK K)); apply hK) | ((iterate 2 (clear hK K)); apply hK) | ((iterate 3 (clear hK K)); apply hK) | ((iterate 4 (clear hK K)); apply hK) | ((iterate 5 (clear hK K)); apply hK)); clear hK K)
  obtain ⟨I, hI⟩ : ∃ I : Nat → St → Prop, ∀ k S, I k S ↔ (∃ (i : Nat) , k = l.length - i ∧ i ≤ l.length ∧ S = ⟨[(0, NL l), (1, NL l), (11, NL l), (12, I64 l.length), (13, I64 i)], []⟩) := ⟨fun k S => _, fun _ _ => Iff.rfl⟩
  refine SW.loop' I (l.length) ((hI _ _).2 ⟨0, rfl, Nat.zero_le _, rfl⟩) (by repeat' (first | exact rfl | exact trivial | exact int_eq (by omega) | exact int_eq (by (rw [i64_wrap] <;> omega)) | constructor)) ?_
  intro k S hIn
  obtain ⟨i, rfl, hi, rfl⟩ := (hI _ _).1 hIn
  clear hIn
  have ie : ((i : Nat) : Int).toNat = i := Int.toNat_natCast _
  have i0 : (0 : Int) ≤ ((i : Nat) : Int) := by omega
  by_cases hlt : i < l.length
  · have hli : ((i : Nat) : Int) < (((l.length) : Nat) : Int) := by omega
    have w1 : IntKind.i64.wrap ((i : Int) + 1) = ((i + 1 : Nat) : Int) := by rw [i64_wrap (by omega) (by omega)]; omega
    repeat' first | (with_reducible refine And.intro (by omega) ?_) | (refine SW.seq_k fun K hK => ?_) | (refine SW.block ?_) | ((first | refine SW.region ?_ | refine SW.regionD (Checked.mixed Tryd.checked) (by kernel_rfl) ?_ | refine SW.cond ?_ | refine SW.skip ?_ | refine SW.exit ?_ | refine SW.ret ?_ | (refine allF_i fun b hb => ?_; replace hD := And.intro hb hD; clear hb; try simp only [fresh_cons, fresh_nil, and_true, ne_eq, neF] at hD) | simp only [appK, appOsK]); try simp only [go_sem, hD, hli, ie, i0, w1]) | (refine And.intro (by omega) ?_) | (refine ifI (fun hc => ?_) (fun hc => ?_) <;> first | (exfalso; omega) | skip) | ((first | apply hK | ((iterate 1 (clear hK K)); apply hK) | ((iterate 2 (clear hK K)); apply hK) | ((iterate 3 (clear hK K)); apply hK) | ((iterate 4 (clear hK K)); apply hK) | ((iterate 5 (clear hK K)); apply hK)); clear hK K)
    refine Rnd.sub (l.length - (i + 1)) (by omega) ((hI _ _).2 ⟨i + 1, rfl, by omega, rfl⟩) (by repeat' (first | exact rfl | exact trivial | exact int_eq (by omega) | exact int_eq (by (rw [i64_wrap] <;> omega)) | constructor))
  · have hli : ¬ ((i : Nat) : Int) < (((l.length) : Nat) : Int) := by omega
    repeat' first | (with_reducible refine And.intro (by omega) ?_) | (refine SW.seq_k fun K hK => ?_) | (refine SW.block ?_) | ((first | refine SW.region ?_ | refine SW.regionD (Checked.mixed Tryd.checked) (by kernel_rfl) ?_ | refine SW.cond ?_ | refine SW.skip ?_ | refine SW.exit ?_ | refine SW.ret ?_ | (refine allF_i fun b hb => ?_; replace hD := And.intro hb hD; clear hb; try simp only [fresh_cons, fresh_nil, and_true, ne_eq, neF] at hD) | simp only [appK, appOsK]); try simp only [go_sem, hD, hli]) | (refine And.intro (by omega) ?_) | (refine ifI (fun hc => ?_) (fun hc => ?_) <;> first | (exfalso; omega) | skip) | ((first | apply hK | ((iterate 1 (clear hK K)); apply hK) | ((iterate 2 (clear hK K)); apply hK) | ((iterate 3 (clear hK K)); apply hK) | ((iterate 4 (clear hK K)); apply hK) | ((iterate 5 (clear hK K)); apply hK)); clear hK K)
    refine ret_pure ?_; simp only [resL_tmp, resL_nil, tupOf, go_sem, hD]
theorem eqV_self (l : List V3) (hl : l.length ≤ 1000000) : PCall Tryd.prog 22 [VL l, VL l] (SB true) := by
  refine Call.enter' (N := 26) (rs := [.tmp 4]) Tryd.func22 rfl rfl rfl (by decide) rfl ?_; simp only [argT]; have hD : (0 : Nat) = 0 := rfl
  repeat' first | (with_reducible refine And.intro (by omega) ?_) | (refine SW.seq_k fun K hK => ?_) | (refine SW.block ?_) | ((first | refine SW.region ?_ | refine SW.regionD (Checked.mixed Tryd.checked) (by kernel_rfl) ?_ | refine SW.cond ?_ | refine SW.skip ?_ | refine SW.exit ?_ | refine SW.ret ?_ | (refine allF_i fun b hb => ?_; replace hD := And.intro hb hD; clear hb; try simp only [fresh_cons, fresh_nil, and_true, ne_eq, neF] at hD) | simp only [appK, appOsK]); try simp only [go_sem, hD]) | (refine And.intro (by omega) ?_) | (refine ifI (fun hc => ?_) (fun hc => ?_) <;> first | (exfalso; omega) | skip) | ((first | apply hK | ((iterate 1 (clear hK K)); apply hK) | ((iterate 2 (clear hK K)); apply hK) | ((iterate 3 (clear hK K)); apply hK) | ((iterate 4 (clear hK K)); apply hK) | ((iterate 5 (clear hK K)); apply hK)); clear hK K)
  obtain ⟨I, hI⟩ : ∃ I : Nat → St → Prop, ∀ k S, I k S ↔ (∃ (i : Nat) , k = l.length - i ∧ i ≤ l.length ∧ S = ⟨[(0, VL l), (1, VL l), (12, I64 l.length), (13, I64 i)], []⟩) := ⟨fun k S => _, fun _ _ => Iff.rfl⟩
  refine SW.loop' I (l.length) ((hI _ _).2 ⟨0, rfl, Nat.zero_le _, rfl⟩) (by repeat' (first | exact rfl | exact trivial | exact int_eq (by omega) | exact int_eq (by (rw [i64_wrap] <;> omega)) | constructor)) ?_
  intro k S hIn
  obtain ⟨i, rfl, hi, rfl⟩ := (hI _ _).1 hIn
  clear hIn
  have ie : ((i : Nat) : Int).toNat = i := Int.toNat_natCast _
  have i0 : (0 : Int) ≤ ((i : Nat) : Int) := by omega
  by_cases hlt : i < l.length
  · have hli : ((i : Nat) : Int) < (((l.length) : Nat) : Int) := by omega
    have w1 : IntKind.i64.wrap ((i : Int) + 1) = ((i + 1 : Nat) : Int) := by rw [i64_wrap (by omega) (by omega)]; omega
    obtain ⟨k, n, s, hv⟩ : ∃ k n t, l.getD i v0 = (k, n, t) := ⟨_, _, _, rfl⟩
    have tv : vF l i = [I64 k, I64 n, Str s] := by unfold vF; rw [hv]
    have hs : (s.toList == s.toList) = true := barr_eq.2 rfl
    repeat' first | (with_reducible refine And.intro (by omega) ?_) | (refine SW.seq_k fun K hK => ?_) | (refine SW.block ?_) | ((first | refine SW.region ?_ | refine SW.regionD (Checked.mixed Tryd.checked) (by kernel_rfl) ?_ | refine SW.cond ?_ | refine SW.skip ?_ | refine SW.exit ?_ | refine SW.ret ?_ | (refine allF_i fun b hb => ?_; replace hD := And.intro hb hD; clear hb; try simp only [fresh_cons, fresh_nil, and_true, ne_eq, neF] at hD) | simp only [appK, appOsK]); try simp only [go_sem, hD, hli, ie, i0, w1, tv, hs]) | (refine And.intro (by omega) ?_) | (refine ifI (fun hc => ?_) (fun hc => ?_) <;> first | (exfalso; omega) | skip) | ((first | apply hK | ((iterate 1 (clear hK K)); apply hK) | ((iterate 2 (clear hK K)); apply hK) | ((iterate 3 (clear hK K)); apply hK) | ((iterate 4 (clear hK K)); apply hK) | ((iterate 5 (clear hK K)); apply hK)); clear hK K)
    refine Rnd.sub (l.length - (i + 1)) (by omega) ((hI _ _).2 ⟨i + 1, rfl, by omega, rfl⟩) (by repeat' (first | exact rfl | exact trivial | exact int_eq (by omega) | exact int_eq (by (rw [i64_wrap] <;> omega)) | constructor))
  · have hli : ¬ ((i : Nat) : Int) < (((l.length) : Nat) : Int) := by omega
    repeat' first | (with_reducible refine And.intro (by omega) ?_) | (refine SW.seq_k fun K hK => ?_) | (refine SW.block ?_) | ((first | refine SW.region ?_ | refine SW.regionD (Checked.mixed Tryd.checked) (by kernel_rfl) ?_ | refine SW.cond ?_ | refine SW.skip ?_ | refine SW.exit ?_ | refine SW.ret ?_ | (refine allF_i fun b hb => ?_; replace hD := And.intro hb hD; clear hb; try simp only [fresh_cons, fresh_nil, and_true, ne_eq, neF] at hD) | simp only [appK, appOsK]); try simp only [go_sem, hD, hli]) | (refine And.intro (by omega) ?_) | (refine ifI (fun hc => ?_) (fun hc => ?_) <;> first | (exfalso; omega) | skip) | ((first | apply hK | ((iterate 1 (clear hK K)); apply hK) | ((iterate 2 (clear hK K)); apply hK) | ((iterate 3 (clear hK K)); apply hK) | ((iterate 4 (clear hK K)); apply hK) | ((iterate 5 (clear hK K)); apply hK)); clear hK K)
    refine ret_pure ?_; simp only [resL_tmp, resL_nil, tupOf, go_sem, hD]
end Go.Proofs.YtddkacbcecedaaaDoor
/- Contracts: Column, whose cells may be written. -/
set_option linter.unusedSimpArgs false
set_option linter.unusedVariables false
set_option linter.unusedSectionVars false
namespace Go.Ab.A34
open Go Go.Ab Go.Proofs
/-- Rows whose values may be written: the blocks of their values, the last one first. -/
def rowsO : List Nat → List SV
  | [] => []
  | v :: r => rowsO r ++ [I64 (r.length + 1 : Nat), .os v 0 1 3]
def valsO (l : List Int) : List Nat → Heap
  | [] => []
  | v :: r => (v, .svs [I64 1, I64 (l.getD r.length 0), Str ⟨#[]⟩]) :: valsO l r
theorem rowsO_len : ∀ vs, (rowsO vs).length = vs.length * 2
  | [] => rfl
  | v :: r => by
    simp only [rowsO, List.length_append, rowsO_len r, List.length_cons, List.length_nil]
    omega
end Go.Ab.A34
namespace Go.Proofs.YtddkacbcecedaaaDoor
open Go Go.Ab Go.Ab.A34
variable [Gl] [Tabs]

set_option maxHeartbeats 4000000 in
set_option maxRecDepth 20000 in
theorem col_o (l : List Int) (hl : l.length ≤ 1000) (hne : 0 < l.length) : Ab.Call Tryd.prog 10 [NL l] [] (fun r h' => ∃ g vs, vs.length = l.length ∧ r = .agg [Str ⟨#[114]⟩, SL [⟨#[97]⟩], .os g 0 l.length 2] ∧ h' = (g, .svs (rowsO vs)) :: valsO l vs) := by
  refine Call.enter' (N := 28) (rs := [.cell 2 29]) Tryd.func10 rfl rfl rfl (by decide) rfl ?_; simp only [argT]; have hD : (0 : Nat) = 0 := rfl
  repeat' first | (with_reducible refine And.intro (by omega) ?_) | (refine SW.seq_k fun K hK => ?_) | (refine SW.block ?_) | ((first | refine SW.region ?_ | refine SW.regionD (Checked.mixed Tryd.checked) (by kernel_rfl) ?_ | refine SW.cond ?_ | refine SW.skip ?_ | refine SW.exit ?_ | refine SW.ret ?_ | (refine allF_i fun b hb => ?_; replace hD := And.intro hb hD; clear hb; try simp only [fresh_cons, fresh_nil, and_true, ne_eq, neF] at hD) | simp only [appK, appOsK]); try simp only [go_sem, hD]) | (refine And.intro (by omega) ?_) | (refine ifI (fun hc => ?_) (fun hc => ?_) <;> first | (exfalso; omega) | skip) | ((first | apply hK | ((iterate 1 (clear hK K)); apply hK) | ((iterate 2 (clear hK K)); apply hK) | ((iterate 3 (clear hK K)); apply hK) | ((iterate 4 (clear hK K)); apply hK) | ((iterate 5 (clear hK K)); apply hK)); clear hK K)
  obtain ⟨tb, rfl⟩ : ∃ x, x = b := ⟨_, rfl⟩
  obtain ⟨ab, rfl⟩ : ∃ x, x = b := ⟨_, rfl⟩
  obtain ⟨rb, rfl⟩ : ∃ x, x = b := ⟨_, rfl⟩
  have d1 : ¬ tb = rb := by simp [hD]
  have d2 : ¬ rb = tb := by simp [hD]
  have d5 : ¬ tb = ab := by simp [hD]
  apply Ab.SW.le
  · apply St.le_freezeC (c := tb) (j := 1) (b := ab) (off := 0) (sz := 1) (f := sF [⟨#[97]⟩])
    · rw [find_cons, if_pos rfl]
    · exact d5
    · show 1 < 3
      omega
    · rfl
    · simp [find_cons, d5, hD]; rfl
    · decide
    · intro p hp
      obtain rfl : p = 0 := by omega
      rfl
  simp only [go_sem, hD, d5]
  refine Ab.SW.le (St.le_pick [(tb, .svs [Str ⟨#[114]⟩, SL [⟨#[97]⟩], .sc (.slice none 0 0)]), (rb, .svs [Str ⟨#[]⟩, .sc (.slice none 0 0), .sc (.slice none 0 0)])] ?_ ?_) ?_
  · repeat' (first | exact (fun x hx => (List.not_mem_nil hx).elim) | refine List.forall_mem_cons.2 ⟨?_, ?_⟩ | exact List.mem_cons_self | apply List.mem_cons_of_mem)
  · simp [fresh_cons, fresh_nil, hD]
  clear hD
  have hD := And.intro (eq_false d1) (eq_false d2)
  obtain ⟨I, hI⟩ : ∃ I : Nat → St → Prop, ∀ k S, I k S ↔ (∃ (i : Nat) (vs : List Nat) (h : Heap), k = l.length - i ∧ i ≤ l.length ∧ vs.length = i ∧ ((i = 0 ∧ h = [(tb, .svs [Str ⟨#[114]⟩, SL [⟨#[97]⟩], .sc (.slice none 0 0)]), (rb, .svs [Str ⟨#[]⟩, .sc (.slice none 0 0), .sc (.slice none 0 0)])]) ∨ (0 < i ∧ ∃ g, ¬ g = tb ∧ ¬ tb = g ∧ ¬ g = rb ∧ ¬ rb = g ∧ h = (g, .svs (rowsO vs)) :: (tb, .svs [Str ⟨#[114]⟩, SL [⟨#[97]⟩], .os g 0 i 2]) :: (rb, .svs [Str ⟨#[]⟩, .sc (.slice none 0 0), .sc (.slice none 0 0)]) :: valsO l vs)) ∧ S = ⟨[(0, NL l), (2, .op rb 0), (3, .op tb 0), (4, I64 i)], h⟩) := ⟨fun k S => _, fun _ _ => Iff.rfl⟩
  refine SW.loop' I (l.length) ((hI _ _).2 ⟨0, [], _, rfl, Nat.zero_le _, rfl, .inl ⟨rfl, rfl⟩, rfl⟩) (by repeat' (first | exact rfl | exact trivial | exact int_eq (by omega) | exact int_eq (by (rw [i64_wrap] <;> omega)) | constructor)) ?_
  intro k S hIn
  obtain ⟨i, vs, h, rfl, hi, hvl, hB, rfl⟩ := (hI _ _).1 hIn
  clear hIn
  have ie : ((i : Nat) : Int).toNat = i := Int.toNat_natCast _
  have i0 : (0 : Int) ≤ ((i : Nat) : Int) := by omega
  by_cases hlt : i < l.length
  · have hli : ((i : Nat) : Int) < (((l.length) : Nat) : Int) := by omega
    have w1 : IntKind.i64.wrap ((i : Int) + 1) = ((i + 1 : Nat) : Int) := by rw [i64_wrap (by omega) (by omega)]; omega
    have ba : (i + 1) * 32 ≤ 140737488355328 := by omega
    obtain ⟨z, hz⟩ : ∃ z, l.getD i 0 = z := ⟨_, rfl⟩
    rcases hB with ⟨hi0, rfl⟩ | ⟨hi0, g, u1, u2, u3, u4, rfl⟩
    · have hvn : vs = [] := List.eq_nil_of_length_eq_zero (by omega)
      subst hvn
      repeat' first | (with_reducible refine And.intro (by omega) ?_) | (refine SW.seq_k fun K hK => ?_) | (refine SW.block ?_) | ((first | refine SW.region ?_ | refine SW.regionZ (id := 5) (Checked.mixed Tryd.checked) ((.one 0 [0, 1, 12, 13, 14] (.one 1 [1, 12, 13, 14] (.one 2 [2, 3, 10, 11, 12, 13, 14] (.one 3 [3, 10, 11, 12, 13, 14] (.one 4 [4, 6, 7, 8, 9, 10, 11, 12, 13, 14] (.one 5 [5, 6, 7, 8, 9, 10, 11, 12, 13, 14] (.one 6 [6, 7, 8, 9, 10, 11, 12, 13, 14] (.one 7 [7, 8, 9, 10, 11, 12, 13, 14] (.one 8 [8, 9, 10, 11, 12, 13, 14] (.alt 9 (.one 10 [10, 11, 12, 13, 14] (.alt 11 (.alt 12 (.one 13 [13, 14] (.alt 14 .done .nil)) .nil) .nil)) .nil)))))))))) : OZ) (by kernel_rfl) ?_ | refine SW.regionD (Checked.mixed Tryd.checked) (by kernel_rfl) ?_ | refine SW.cond ?_ | refine SW.skip ?_ | refine SW.exit ?_ | refine SW.ret ?_ | (refine allF_i fun b hb => ?_; replace hD := And.intro hb hD; clear hb; try simp only [fresh_cons, fresh_nil, and_true, ne_eq, neF] at hD) | simp only [appK, appOsK]); try simp only [go_sem, hD, hli, ie, i0, w1, ba, hz, true_implies]) | (refine And.intro (by omega) ?_) | (refine ifI (fun hc => ?_) (fun hc => ?_) <;> first | (exfalso; omega) | skip) | ((first | apply hK | ((iterate 1 (clear hK K)); apply hK) | ((iterate 2 (clear hK K)); apply hK) | ((iterate 3 (clear hK K)); apply hK) | ((iterate 4 (clear hK K)); apply hK) | ((iterate 5 (clear hK K)); apply hK)); clear hK K) | (refine And.intro ?_ ?_)
      all_goals
        subst hi0
        obtain ⟨nb, rfl⟩ : ∃ x, x = b := ⟨_, rfl⟩
        obtain ⟨lb, rfl⟩ : ∃ x, x = b := ⟨_, rfl⟩
        obtain ⟨vb, rfl⟩ : ∃ x, x = b := ⟨_, rfl⟩
        refine Rnd.le (St.le_pick [(nb, .svs [I64 (0 + 1 : Nat), .os vb 0 1 3]), (tb, .svs [Str ⟨#[114]⟩, SL [⟨#[97]⟩], .os nb 0 1 2]), (rb, .svs [Str ⟨#[]⟩, .sc (.slice none 0 0), .sc (.slice none 0 0)]), (vb, .svs [I64 1, I64 z, Str ⟨#[]⟩])] ?_ ?_) ?_
        · repeat' (first | exact (fun x hx => (List.not_mem_nil hx).elim) | refine List.forall_mem_cons.2 ⟨?_, ?_⟩ | exact List.mem_cons_self | apply List.mem_cons_of_mem)
        · simp [fresh_cons, fresh_nil, hD]
        refine Rnd.sub (l.length - (0 + 1)) (by omega) ((hI _ _).2 ⟨0 + 1, [vb], _, rfl, by omega, rfl, .inr ⟨by omega, nb, by simp [hD], by simp [hD], by simp [hD], by simp [hD], by rw [← hz]; rfl⟩, rfl⟩) (by repeat' (first | exact rfl | exact trivial | exact int_eq (by omega) | exact int_eq (by (rw [i64_wrap] <;> omega)) | constructor))
    · have hD := And.intro (And.intro (eq_false u1) (eq_false u2)) (And.intro (And.intro (eq_false u3) (eq_false u4)) hD)
      have hfc : (rowsO vs).length = i * 2 := by rw [rowsO_len, hvl]
      have hro : ∀ vb, rowsO (vb :: vs) = rowsO vs ++ [I64 (i + 1 : Nat), .os vb 0 1 3] := fun vb => by rw [rowsO, hvl]
      have hvo : ∀ vb, valsO l (vb :: vs) = (vb, .svs [I64 1, I64 z, Str ⟨#[]⟩]) :: valsO l vs := fun vb => by rw [valsO, hvl, hz]
      generalize rowsO vs = RO' at *
      generalize valsO l vs = V at *
      repeat' first | (with_reducible refine And.intro (by omega) ?_) | (refine SW.seq_k fun K hK => ?_) | (refine SW.block ?_) | ((first | refine SW.region ?_ | refine SW.regionZ (id := 5) (Checked.mixed Tryd.checked) ((.one 0 [0, 1, 12, 13, 14] (.one 1 [1, 12, 13, 14] (.one 2 [2, 3, 10, 11, 12, 13, 14] (.one 3 [3, 10, 11, 12, 13, 14] (.one 4 [4, 6, 7, 8, 9, 10, 11, 12, 13, 14] (.one 5 [5, 6, 7, 8, 9, 10, 11, 12, 13, 14] (.one 6 [6, 7, 8, 9, 10, 11, 12, 13, 14] (.one 7 [7, 8, 9, 10, 11, 12, 13, 14] (.one 8 [8, 9, 10, 11, 12, 13, 14] (.alt 9 (.one 10 [10, 11, 12, 13, 14] (.alt 11 (.alt 12 (.one 13 [13, 14] (.alt 14 .done .nil)) .nil) .nil)) .nil)))))))))) : OZ) (by kernel_rfl) ?_ | refine SW.regionD (Checked.mixed Tryd.checked) (by kernel_rfl) ?_ | refine SW.cond ?_ | refine SW.skip ?_ | refine SW.exit ?_ | refine SW.ret ?_ | (refine allF_i fun b hb => ?_; replace hD := And.intro hb hD; clear hb; try simp only [fresh_cons, fresh_nil, and_true, ne_eq, neF] at hD) | simp only [appK, appOsK]); try simp only [go_sem, hD, hli, ie, i0, w1, ba, hz, hfc, true_implies]) | (refine And.intro (by omega) ?_) | (refine ifI (fun hc => ?_) (fun hc => ?_) <;> first | (exfalso; omega) | skip) | ((first | apply hK | ((iterate 1 (clear hK K)); apply hK) | ((iterate 2 (clear hK K)); apply hK) | ((iterate 3 (clear hK K)); apply hK) | ((iterate 4 (clear hK K)); apply hK) | ((iterate 5 (clear hK K)); apply hK)); clear hK K) | (refine And.intro ?_ ?_)
      all_goals
        obtain ⟨nb, rfl⟩ : ∃ x, x = b := ⟨_, rfl⟩
        obtain ⟨lb, rfl⟩ : ∃ x, x = b := ⟨_, rfl⟩
        obtain ⟨vb, rfl⟩ : ∃ x, x = b := ⟨_, rfl⟩
        have x1 : ¬ nb = lb := by simp [hD]
        have P : ((nb, Blk.svs (RO' ++ [I64 (i + 1 : Nat), .os vb 0 1 3])) :: (tb, .svs [Str ⟨#[114]⟩, SL [⟨#[97]⟩], .os nb 0 (i + 1) 2]) :: (rb, .svs [Str ⟨#[]⟩, .sc (.slice none 0 0), .sc (.slice none 0 0)]) :: (vb, .svs [I64 1, I64 z, Str ⟨#[]⟩]) :: V).Perm ((vb, .svs [I64 1, I64 z, Str ⟨#[]⟩]) :: (nb, Blk.svs (RO' ++ [I64 (i + 1 : Nat), .os vb 0 1 3])) :: (tb, .svs [Str ⟨#[114]⟩, SL [⟨#[97]⟩], .os nb 0 (i + 1) 2]) :: (rb, .svs [Str ⟨#[]⟩, .sc (.slice none 0 0), .sc (.slice none 0 0)]) :: V) :=
          ((List.Perm.cons _ (List.Perm.cons _ (List.Perm.swap ..))).trans (List.Perm.cons _ (List.Perm.swap ..))).trans (List.Perm.swap ..)
        refine Rnd.le ((St.le_del' (b := lb) (h' := (vb, .svs [I64 1, I64 z, Str ⟨#[]⟩]) :: (nb, Blk.svs (RO' ++ [I64 (i + 1 : Nat), .os vb 0 1 3])) :: (tb, .svs [Str ⟨#[114]⟩, SL [⟨#[97]⟩], .os nb 0 (i + 1) 2]) :: (rb, .svs [Str ⟨#[]⟩, .sc (.slice none 0 0), .sc (.slice none 0 0)]) :: V) ?_).trans (St.le_perm P)) ?_
        · (simp only [go_sem, hD]) <;> rfl
        refine Rnd.sub (l.length - (i + 1)) (by omega) ((hI _ _).2 ⟨i + 1, vb :: vs, _, rfl, by omega, by rw [List.length_cons, hvl], .inr ⟨by omega, nb, by simp [hD], by simp [hD], by simp [hD], by simp [hD], by rw [hro, hvo]⟩, rfl⟩) (by repeat' (first | exact rfl | exact trivial | exact int_eq (by omega) | exact int_eq (by (rw [i64_wrap] <;> omega)) | constructor))
  · have hli : ¬ ((i : Nat) : Int) < (((l.length) : Nat) : Int) := by omega
    obtain rfl : i = l.length := by omega
    rcases hB with ⟨hi0, rfl⟩ | ⟨hi0, g, u1, u2, u3, u4, rfl⟩
    · omega
    · have hD := And.intro (And.intro (eq_false u1) (eq_false u2)) (And.intro (And.intro (eq_false u3) (eq_false u4)) hD)
      generalize hV : valsO l vs = V at *
      repeat' first | (with_reducible refine And.intro (by omega) ?_) | (refine SW.seq_k fun K hK => ?_) | (refine SW.block ?_) | ((first | refine SW.region ?_ | refine SW.regionD (Checked.mixed Tryd.checked) (by kernel_rfl) ?_ | refine SW.cond ?_ | refine SW.skip ?_ | refine SW.exit ?_ | refine SW.ret ?_ | (refine allF_i fun b hb => ?_; replace hD := And.intro hb hD; clear hb; try simp only [fresh_cons, fresh_nil, and_true, ne_eq, neF] at hD) | simp only [appK, appOsK]); try simp only [go_sem, hD, hli, true_implies]) | (refine And.intro (by omega) ?_) | (refine ifI (fun hc => ?_) (fun hc => ?_) <;> first | (exfalso; omega) | skip) | ((first | apply hK | ((iterate 1 (clear hK K)); apply hK) | ((iterate 2 (clear hK K)); apply hK) | ((iterate 3 (clear hK K)); apply hK) | ((iterate 4 (clear hK K)); apply hK) | ((iterate 5 (clear hK K)); apply hK)); clear hK K)
      refine retQ_le (((St.le_freezeP (i := 2) (b := rb) (off := 0) (n := 3) (k := .svs [Str ⟨#[114]⟩, SL [⟨#[97]⟩], .os g 0 l.length 2]) ?_ ?_ ?_).trans (St.le_del' (b := tb) (h' := (g, .svs (rowsO vs)) :: V) ?_))) ?_
      · exact rfl
      · simp [find_cons, hD]
      · exact Nat.le_refl 3
      · (simp only [go_sem, hD]) <;> rfl
      · simp only [resL_tmp, resL_cellE, resC_ok, resL_nil, tupOf, getN, go_sem, hD]
        exact ⟨g, vs, hvl, rfl, by rw [hV]⟩
end Go.Proofs.YtddkacbcecedaaaDoor
/- awake answers true: the plain part. -/
set_option linter.unusedSimpArgs false
set_option linter.unusedVariables false
set_option linter.unusedSectionVars false
namespace Go.Ab.A34
open Go Go.Ab Go.Proofs Go.Proofs.YtddkacbcecedaaaDoor
def num (n : Int) : V3 := (1, n, ⟨#[]⟩)
/-- The table of the example. -/
def awT : Tb := ⟨⟨#[114]⟩, [⟨#[97]⟩], [(1, [num 5]), (2, [num 7]), (3, [v0]), (4, [num 5])]⟩
theorem emp_nil : emp ⟨#[]⟩ = true := barr_eq.2 rfl
theorem okV_num (n : Int) : okV (num n) = true := by
  unfold okV vok num
  simp [emp_nil]
theorem okV_zero : okV v0 = true := by
  unfold okV vok v0
  simp [emp_nil]
theorem name_r1 : nameB (⟨#[114]⟩ : ByteArray).data.toList = true := by decide
theorem name_a1 : namesB [⟨#[97]⟩] = true := by decide +kernel
theorem awT_valid : validS awT = 0 := by
  unfold validS awT
  simp only [name_r1, name_a1, if_true, rowsV, okV_num, okV_zero, List.all_cons, List.all_nil, List.length_cons, List.length_nil, Bool.and_self]
  decide
theorem sort_is {l s : List V3} (h : s.Pairwise fun x y => cmp3 x y ≤ 0) (p : l.Perm s) : sortV l = s := sorted_eq (sortV_sorted l) h ((sortV_perm l).trans p)
theorem awT_col : colS awT 0 = [v0, num 5, num 5, num 7] := by
  refine sort_is (by decide +kernel) ?_
  show [num 5, num 7, v0, num 5].Perm [v0, num 5, num 5, num 7]
  exact ((List.Perm.cons _ (List.Perm.swap ..)).trans (List.Perm.swap ..)).trans (List.Perm.cons _ (List.Perm.cons _ (List.Perm.swap ..)))
def awC : Co := ⟨4, 1, 3, num 5, num 7, num 5, 2, 3, 0⟩
theorem awT_prof : profS awT 0 = awC := by
  unfold profS
  rw [awT_col]
  kernel_rfl
def awText : List UInt8 := [97, 32, 114, 111, 119, 115, 32, 52, 32, 110, 117, 108, 108, 115, 32, 49, 32, 100, 105, 115, 116, 105, 110, 99, 116, 32, 51, 32, 110, 117, 109, 98, 101, 114, 115, 32, 51, 32, 116, 101, 120, 116, 115, 32, 48, 32, 108, 101, 97, 115, 116, 32, 53, 32, 103, 114, 101, 97, 116, 101, 115, 116, 32, 55, 32, 99, 111, 109, 109, 111, 110, 32, 53, 32, 116, 105, 109, 101, 115, 32, 50, 10]
theorem aw_fmt (n : Int) : fmtV (num n).1 (num n).2.1 (num n).2.2 = (itoaS n, 0) := by
  have h := okV_num n
  unfold okV at h
  unfold fmtV
  rw [if_pos h]
  rfl
theorem aw_text : linesS [⟨#[97]⟩] [awC] 1 = awText := by
  unfold linesS linesS lineS txtS
  simp only [List.getD_cons_zero, awC, aw_fmt]
  decide +kernel
theorem aw_comp : compS awT 1 = (3, 4, 0) := by
  unfold compS nulS
  rw [if_pos awT_valid]
  have hm : memS 1 = [0] := by decide
  rw [hm]
  simp only [List.map_cons, List.map_nil, Int.toNat_zero, awT_prof]
  decide +kernel
def out6 : List Int := [2, 9, 3, 1, 3, 2]
theorem out6_col : colS (colT out6) 0 = [num 1, num 2, num 2, num 3, num 3, num 9] := by
  refine sort_is (by decide +kernel) ?_
  show [num 2, num 9, num 3, num 1, num 3, num 2].Perm [num 1, num 2, num 2, num 3, num 3, num 9]
  have a1 : [num 9, num 3, num 1, num 3, num 2].Perm (num 1 :: [num 9, num 3, num 3, num 2]) := List.perm_middle (l₁ := [num 9, num 3])
  have a2 : [num 9, num 3, num 3, num 2].Perm (num 2 :: [num 9, num 3, num 3]) := List.perm_middle (l₁ := [num 9, num 3, num 3])
  have a3 : [num 9, num 3, num 3].Perm [num 3, num 3, num 9] := (List.Perm.swap ..).trans (List.Perm.cons _ (List.Perm.swap ..))
  exact (List.Perm.cons _ a1).trans ((List.Perm.swap ..).trans (List.Perm.cons _ (List.Perm.cons _ (a2.trans (List.Perm.cons _ a3)))))
theorem out6_nums : numsOf (colS (colT out6) 0) = [1, 2, 2, 3, 3, 9] := by rw [out6_col]; decide
theorem out6_out : outS (colT out6) 0 = [2] := by
  unfold outS
  rw [out6_nums]
  decide
theorem okV_num' (l : List Int) (j : Nat) : okV (1, l.getD j 0, ⟨#[]⟩) = true := okV_num (l.getD j 0)
theorem colT_valid (l : List Int) (h : l.length ≤ 1000) : validS (colT l) = 0 := by
  have hr : ∀ (k j : Nat) (p : Int), p = j → j + k ≤ 1000000 → rowsV 1 p ((List.range' j k).map fun j => cellR l j) = 0 := fun k => by
    induction k with
    | zero => intro j p _ _; rfl
    | succ k ih =>
      intro j p hp hj
      rw [List.range'_succ, List.map_cons, rowsV, if_neg (by show ¬ ((j + 1 : Nat) : Int) ≤ p; omega), if_neg (by simp [cellR]), if_pos (by show (okV (1, l.getD j 0, ⟨#[]⟩) && true) = true; rw [okV_num' l j]; rfl)]
      exact ih (j + 1) _ rfl (by omega)
  have hlen : (colT l).rows.length = l.length := by simp [colT]
  unfold validS
  rw [if_pos (show nameB (colT l).name.data.toList = true from name_r1), if_neg (show ¬ (16 < (colT l).attrs.length ∨ 1000 < (colT l).rows.length) by rw [hlen]; show ¬ (16 < 1 ∨ 1000 < l.length); omega), if_pos (show namesB (colT l).attrs = true from name_a1)]
  show rowsV 1 0 ((List.range l.length).map fun j => cellR l j) = 0
  rw [List.range_eq_range']
  exact hr l.length 0 0 rfl (by omega)
end Go.Ab.A34
/- awake answers true. -/
set_option linter.unusedSimpArgs false
set_option linter.unusedVariables false
set_option linter.unusedSectionVars false
namespace Go.Proofs.YtddkacbcecedaaaDoor
open Go Go.Ab Go.Ab.A34
variable [Gl] [Tabs] [Bru]

theorem colT_64 (l : List Int) (h : ∀ n ∈ l, In64 n) : ∀ r ∈ (colT l).rows, ∀ v ∈ r.2, In64 v.2.1 := by
  intro r hr v hv
  unfold colT at hr
  obtain ⟨j, hj, rfl⟩ := List.mem_map.1 hr
  rw [List.mem_singleton.1 hv]
  exact h _ (getD_mem 0 (List.mem_range.1 hj))
theorem awT_64 : ∀ r ∈ awT.rows, ∀ v ∈ r.2, In64 v.2.1 := by
  intro r hr v hv
  unfold awT num v0 at hr
  simp only [List.mem_cons, List.not_mem_nil, or_false] at hr
  unfold In64
  rcases hr with rfl | rfl | rfl | rfl <;> rw [List.mem_singleton.1 hv] <;> decide

set_option maxHeartbeats 2000000 in
set_option maxRecDepth 20000 in
theorem awake_c : PCall Tryd.prog 9 [] (SB true) := by
  have c1 := col_o [5, 7, 0, 5] (by decide) (by decide)
  have c2 := col_r out6 (by decide)
  have fm := format_c ⟨#[114]⟩ [⟨#[97]⟩] awT.rows [awC] rfl (by decide) (by decide) (by
    intro c hc
    rw [List.mem_singleton.1 hc, ← awT_prof]
    exact prof_co awT 0 awT_valid (by decide) awT_64) (by
    have := all_p awT awT_valid
    have e : (List.range awT.attrs.length).map (profS awT) = [awC] := by
      show [profS awT 0] = [awC]
      rw [awT_prof]
    rw [e] at this
    exact this)
  rw [show linesS [⟨#[97]⟩] [awC] [awC].length = awText from aw_text] at fm
  have cp := comp_p awT 1 (by decide) (by decide) awT_64
  rw [aw_comp] at cp
  replace cp : PCall Tryd.prog 29 [TB awT, U32 1] (FR (3, 4, 0)) := cp
  have op := out_p (colT out6) 0 (by unfold chkS; rw [if_pos (colT_valid out6 (by decide))]; rfl) (colT_64 out6 (by unfold In64 out6; decide))
  rw [out6_out] at op
  replace op : PCall Tryd.prog 11 [TB (colT out6), I64 0] (.tup [NL [2], I64 0]) := op
  have eq1 := eqN_self [2] (by decide)
  generalize colT out6 = T6 at *
  refine Call.enter' (N := 57) (rs := [.tmp 0]) Tryd.func9 rfl rfl rfl (by decide) rfl ?_; simp only [argT]; have hD : (0 : Nat) = 0 := rfl
  refine SW.seq_k fun K0 hK0 => ?_
  repeat' first | (with_reducible refine And.intro (by omega) ?_) | (refine SW.seq_k fun K hK => ?_) | (refine SW.block ?_) | ((first | refine SW.region ?_ | refine SW.regionD (Checked.mixed Tryd.checked) (by kernel_rfl) ?_ | refine SW.cond ?_ | refine SW.skip ?_ | refine SW.exit ?_ | refine SW.ret ?_ | (refine allF_i fun b hb => ?_; replace hD := And.intro hb hD; clear hb; try simp only [fresh_cons, fresh_nil, and_true, ne_eq, neF] at hD) | simp only [appK, appOsK]); try simp only [go_sem, hD]) | (refine And.intro (by omega) ?_) | (refine ifI (fun hc => ?_) (fun hc => ?_) <;> first | (exfalso; omega) | skip) | ((first | apply hK | ((iterate 1 (clear hK K)); apply hK) | ((iterate 2 (clear hK K)); apply hK) | ((iterate 3 (clear hK K)); apply hK) | ((iterate 4 (clear hK K)); apply hK) | ((iterate 5 (clear hK K)); apply hK)); clear hK K)
  refine hK0 _ ?_
  clear hK0
  refine SW.seq_k fun K1 hK1 => ?_
  repeat' first | (with_reducible refine And.intro (by omega) ?_) | (refine SW.seq_k fun K hK => ?_) | (refine SW.block ?_) | ((first | refine SW.region ?_ | refine SW.regionD (Checked.mixed Tryd.checked) (by kernel_rfl) ?_ | refine SW.cond ?_ | refine SW.skip ?_ | refine SW.exit ?_ | refine SW.ret ?_ | (refine allF_i fun b hb => ?_; replace hD := And.intro hb hD; clear hb; try simp only [fresh_cons, fresh_nil, and_true, ne_eq, neF] at hD) | simp only [appK, appOsK]); try simp only [go_sem, hD]) | (refine And.intro (by omega) ?_) | (refine ifI (fun hc => ?_) (fun hc => ?_) <;> first | (exfalso; omega) | skip) | ((first | apply hK | ((iterate 1 (clear hK K)); apply hK) | ((iterate 2 (clear hK K)); apply hK) | ((iterate 3 (clear hK K)); apply hK) | ((iterate 4 (clear hK K)); apply hK) | ((iterate 5 (clear hK K)); apply hK)); clear hK K)
  refine Call.freeze_ints 0 .i64 [5, 7, 0, 5] (by simp) rfl rfl (by rw [find_cons, if_pos rfl]) rfl ?_
  rw [del_head]
  refine Call.mono (Call.frameN (h1 := []) (h2 := []) c1) ?_
  intro r h' hx
  obtain ⟨h1', rfl, ⟨g, vs, hvs, rfl, rfl⟩, hnd⟩ := hx
  obtain ⟨v3, v2, v1, va, rfl⟩ : ∃ a b c d, vs = [a, b, c, d] := by
    match vs, hvs with
    | [a, b, c, d], _ => exact ⟨a, b, c, d, rfl⟩
  simp only [rowsO, valsO, List.append_nil, List.map_cons, List.map_nil, List.nodup_cons, List.mem_cons, List.not_mem_nil, or_false, not_or, not_false_eq_true, and_true, List.nodup_nil] at hnd
  obtain ⟨⟨n1, n2, n3, n4⟩, ⟨n5, n6, n7⟩, ⟨n8, n9⟩, n10⟩ := hnd
  have hD := And.intro (And.intro (eq_false n1) (eq_false (Ne.symm n1))) (And.intro (And.intro (eq_false n2) (eq_false (Ne.symm n2))) (And.intro (And.intro (eq_false n3) (eq_false (Ne.symm n3))) (And.intro (And.intro (eq_false n4) (eq_false (Ne.symm n4))) (And.intro (And.intro (eq_false n5) (eq_false (Ne.symm n5))) (And.intro (And.intro (eq_false n6) (eq_false (Ne.symm n6))) (And.intro (And.intro (eq_false n7) (eq_false (Ne.symm n7))) (And.intro (And.intro (eq_false n8) (eq_false (Ne.symm n8))) (And.intro (And.intro (eq_false n9) (eq_false (Ne.symm n9))) (And.intro (eq_false n10) (eq_false (Ne.symm n10)))))))))))
  simp only [rowsO, valsO, List.append_nil, List.nil_append, List.cons_append]
  repeat' first | (with_reducible refine And.intro (by omega) ?_) | (refine SW.seq_k fun K hK => ?_) | (refine SW.block ?_) | ((first | refine SW.region ?_ | refine SW.regionD (Checked.mixed Tryd.checked) (by kernel_rfl) ?_ | refine SW.cond ?_ | refine SW.skip ?_ | refine SW.exit ?_ | refine SW.ret ?_ | (refine allF_i fun b hb => ?_; replace hD := And.intro hb hD; clear hb; try simp only [fresh_cons, fresh_nil, and_true, ne_eq, neF] at hD) | simp only [appK, appOsK]); try simp only [go_sem, hD]) | (refine And.intro (by omega) ?_) | (refine ifI (fun hc => ?_) (fun hc => ?_) <;> first | (exfalso; omega) | skip) | ((first | apply hK | ((iterate 1 (clear hK K)); apply hK) | ((iterate 2 (clear hK K)); apply hK) | ((iterate 3 (clear hK K)); apply hK) | ((iterate 4 (clear hK K)); apply hK) | ((iterate 5 (clear hK K)); apply hK)); clear hK K)
  refine hK1 _ ?_
  clear hK1
  obtain ⟨tb, rfl⟩ : ∃ x, x = b := ⟨_, rfl⟩
  refine SW.seq_k fun K2 hK2 => ?_
  repeat' first | (with_reducible refine And.intro (by omega) ?_) | (refine SW.seq_k fun K hK => ?_) | (refine SW.block ?_) | ((first | refine SW.region ?_ | refine SW.regionD (Checked.mixed Tryd.checked) (by kernel_rfl) ?_ | refine SW.cond ?_ | refine SW.skip ?_ | refine SW.exit ?_ | refine SW.ret ?_ | (refine allF_i fun b hb => ?_; replace hD := And.intro hb hD; clear hb; try simp only [fresh_cons, fresh_nil, and_true, ne_eq, neF] at hD) | simp only [appK, appOsK]); try simp only [go_sem, hD]) | (refine And.intro (by omega) ?_) | (refine ifI (fun hc => ?_) (fun hc => ?_) <;> first | (exfalso; omega) | skip) | ((first | apply hK | ((iterate 1 (clear hK K)); apply hK) | ((iterate 2 (clear hK K)); apply hK) | ((iterate 3 (clear hK K)); apply hK) | ((iterate 4 (clear hK K)); apply hK) | ((iterate 5 (clear hK K)); apply hK)); clear hK K)
  refine hK2 _ ?_
  clear hK2
  have st0 : ∀ t, (St.mk t [(tb, .svs [Str ⟨#[114]⟩, SL [⟨#[97]⟩], .os g 0 4 2]), (g, .svs [I64 1, .os va 0 1 3, I64 2, .os v1 0 1 3, I64 3, .os v2 0 1 3, I64 4, .os v3 0 1 3]), (v3, .svs (vC (num 5))), (v2, .svs (vC v0)), (v1, .svs (vC (num 7))), (va, .svs (vC (num 5)))]).le ⟨t, [(tb, .svs [Str ⟨#[114]⟩, SL [⟨#[97]⟩], .os g 0 4 2]), (g, .svs [I64 1, VL [num 5], I64 2, .os v1 0 1 3, I64 3, .os v2 0 1 3, I64 4, .os v3 0 1 3]), (v3, .svs (vC (num 5))), (v2, .svs (vC v0)), (v1, .svs (vC (num 7)))]⟩ := fun t => by
    have := St.le_freezeC (t := t) (h := [(tb, .svs [Str ⟨#[114]⟩, SL [⟨#[97]⟩], .os g 0 4 2]), (g, .svs [I64 1, .os va 0 1 3, I64 2, .os v1 0 1 3, I64 3, .os v2 0 1 3, I64 4, .os v3 0 1 3]), (v3, .svs (vC (num 5))), (v2, .svs (vC v0)), (v1, .svs (vC (num 7))), (va, .svs (vC (num 5)))]) (c := g) (j := 1) (b := va) (off := 0) (sz := 3) (len := 1) (k := .svs (vC (num 5))) (cs := [I64 1, .os va 0 1 3, I64 2, .os v1 0 1 3, I64 3, .os v2 0 1 3, I64 4, .os v3 0 1 3]) (by simp only [go_sem, hD]) (by simp [hD]) (by show 1 < 8; omega) rfl (by simp only [go_sem, hD]) (Nat.le_refl 3) (vF [num 5]) (fun p hp => by have e : p = 0 := (by omega); subst e; rfl)
    simp only [go_sem, hD] at this
    exact this
  have st1 : ∀ t, (St.mk t [(tb, .svs [Str ⟨#[114]⟩, SL [⟨#[97]⟩], .os g 0 4 2]), (g, .svs [I64 1, VL [num 5], I64 2, .os v1 0 1 3, I64 3, .os v2 0 1 3, I64 4, .os v3 0 1 3]), (v3, .svs (vC (num 5))), (v2, .svs (vC v0)), (v1, .svs (vC (num 7)))]).le ⟨t, [(tb, .svs [Str ⟨#[114]⟩, SL [⟨#[97]⟩], .os g 0 4 2]), (g, .svs [I64 1, VL [num 5], I64 2, VL [num 7], I64 3, .os v2 0 1 3, I64 4, .os v3 0 1 3]), (v3, .svs (vC (num 5))), (v2, .svs (vC v0))]⟩ := fun t => by
    have := St.le_freezeC (t := t) (h := [(tb, .svs [Str ⟨#[114]⟩, SL [⟨#[97]⟩], .os g 0 4 2]), (g, .svs [I64 1, VL [num 5], I64 2, .os v1 0 1 3, I64 3, .os v2 0 1 3, I64 4, .os v3 0 1 3]), (v3, .svs (vC (num 5))), (v2, .svs (vC v0)), (v1, .svs (vC (num 7)))]) (c := g) (j := 3) (b := v1) (off := 0) (sz := 3) (len := 1) (k := .svs (vC (num 7))) (cs := [I64 1, VL [num 5], I64 2, .os v1 0 1 3, I64 3, .os v2 0 1 3, I64 4, .os v3 0 1 3]) (by simp only [go_sem, hD]) (by simp [hD]) (by show 3 < 8; omega) rfl (by simp only [go_sem, hD]) (Nat.le_refl 3) (vF [num 7]) (fun p hp => by have e : p = 0 := (by omega); subst e; rfl)
    simp only [go_sem, hD] at this
    exact this
  have st2 : ∀ t, (St.mk t [(tb, .svs [Str ⟨#[114]⟩, SL [⟨#[97]⟩], .os g 0 4 2]), (g, .svs [I64 1, VL [num 5], I64 2, VL [num 7], I64 3, .os v2 0 1 3, I64 4, .os v3 0 1 3]), (v3, .svs (vC (num 5))), (v2, .svs (vC v0))]).le ⟨t, [(tb, .svs [Str ⟨#[114]⟩, SL [⟨#[97]⟩], .os g 0 4 2]), (g, .svs [I64 1, VL [num 5], I64 2, VL [num 7], I64 3, VL [v0], I64 4, .os v3 0 1 3]), (v3, .svs (vC (num 5)))]⟩ := fun t => by
    have := St.le_freezeC (t := t) (h := [(tb, .svs [Str ⟨#[114]⟩, SL [⟨#[97]⟩], .os g 0 4 2]), (g, .svs [I64 1, VL [num 5], I64 2, VL [num 7], I64 3, .os v2 0 1 3, I64 4, .os v3 0 1 3]), (v3, .svs (vC (num 5))), (v2, .svs (vC v0))]) (c := g) (j := 5) (b := v2) (off := 0) (sz := 3) (len := 1) (k := .svs (vC (v0))) (cs := [I64 1, VL [num 5], I64 2, VL [num 7], I64 3, .os v2 0 1 3, I64 4, .os v3 0 1 3]) (by simp only [go_sem, hD]) (by simp [hD]) (by show 5 < 8; omega) rfl (by simp only [go_sem, hD]) (Nat.le_refl 3) (vF [v0]) (fun p hp => by have e : p = 0 := (by omega); subst e; rfl)
    simp only [go_sem, hD] at this
    exact this
  have st3 : ∀ t, (St.mk t [(tb, .svs [Str ⟨#[114]⟩, SL [⟨#[97]⟩], .os g 0 4 2]), (g, .svs [I64 1, VL [num 5], I64 2, VL [num 7], I64 3, VL [v0], I64 4, .os v3 0 1 3]), (v3, .svs (vC (num 5)))]).le ⟨t, [(tb, .svs [Str ⟨#[114]⟩, SL [⟨#[97]⟩], .os g 0 4 2]), (g, .svs [I64 1, VL [num 5], I64 2, VL [num 7], I64 3, VL [v0], I64 4, VL [num 5]])]⟩ := fun t => by
    have := St.le_freezeC (t := t) (h := [(tb, .svs [Str ⟨#[114]⟩, SL [⟨#[97]⟩], .os g 0 4 2]), (g, .svs [I64 1, VL [num 5], I64 2, VL [num 7], I64 3, VL [v0], I64 4, .os v3 0 1 3]), (v3, .svs (vC (num 5)))]) (c := g) (j := 7) (b := v3) (off := 0) (sz := 3) (len := 1) (k := .svs (vC (num 5))) (cs := [I64 1, VL [num 5], I64 2, VL [num 7], I64 3, VL [v0], I64 4, .os v3 0 1 3]) (by simp only [go_sem, hD]) (by simp [hD]) (by show 7 < 8; omega) rfl (by simp only [go_sem, hD]) (Nat.le_refl 3) (vF [num 5]) (fun p hp => by have e : p = 0 := (by omega); subst e; rfl)
    simp only [go_sem, hD] at this
    exact this
  have st4 : ∀ t, (St.mk t [(tb, .svs [Str ⟨#[114]⟩, SL [⟨#[97]⟩], .os g 0 4 2]), (g, .svs [I64 1, VL [num 5], I64 2, VL [num 7], I64 3, VL [v0], I64 4, VL [num 5]])]).le ⟨t, [(tb, .svs [Str ⟨#[114]⟩, SL [⟨#[97]⟩], RL awT.rows])]⟩ := fun t => by
    have := St.le_freezeC (t := t) (h := [(tb, .svs [Str ⟨#[114]⟩, SL [⟨#[97]⟩], .os g 0 4 2]), (g, .svs [I64 1, VL [num 5], I64 2, VL [num 7], I64 3, VL [v0], I64 4, VL [num 5]])]) (c := tb) (j := 2) (b := g) (off := 0) (sz := 2) (len := 4) (k := .svs [I64 1, VL [num 5], I64 2, VL [num 7], I64 3, VL [v0], I64 4, VL [num 5]]) (cs := [Str ⟨#[114]⟩, SL [⟨#[97]⟩], .os g 0 4 2]) (by simp only [go_sem, hD]) (by simp [hD]) (by show 2 < 3; omega) rfl (by simp only [go_sem, hD]) (Nat.le_refl 8) (rF awT.rows) (fun p hp => by
      have e : p = 0 ∨ p = 1 ∨ p = 2 ∨ p = 3 := (by omega)
      rcases e with rfl | rfl | rfl | rfl <;> rfl)
    simp only [go_sem, hD] at this
    exact this
  refine Ab.SW.le (S' := ⟨_, [(tb, .svs [Str ⟨#[114]⟩, SL [⟨#[97]⟩], RL awT.rows])]⟩) ((St.le_pick [(tb, .svs [Str ⟨#[114]⟩, SL [⟨#[97]⟩], .os g 0 4 2]), (g, .svs [I64 1, .os va 0 1 3, I64 2, .os v1 0 1 3, I64 3, .os v2 0 1 3, I64 4, .os v3 0 1 3]), (v3, .svs (vC (num 5))), (v2, .svs (vC v0)), (v1, .svs (vC (num 7))), (va, .svs (vC (num 5)))] ?_ ?_).trans ((st0 _).trans ((st1 _).trans ((st2 _).trans ((st3 _).trans (st4 _)))))) ?_
  · repeat' (first | exact (fun x hx => (List.not_mem_nil hx).elim) | refine List.forall_mem_cons.2 ⟨?_, ?_⟩ | exact List.mem_cons_self | apply List.mem_cons_of_mem)
  · simp [fresh_cons, fresh_nil, hD]
  clear hD
  have hD : (0 : Nat) = 0 := rfl
  repeat' first | (with_reducible refine And.intro (by omega) ?_) | (refine SW.seq_k fun K hK => ?_) | (refine SW.block ?_) | ((first | refine SW.region ?_ | refine SW.regionD (Checked.mixed Tryd.checked) (by kernel_rfl) ?_ | refine SW.cond ?_ | refine SW.skip ?_ | refine SW.exit ?_ | refine SW.ret ?_ | refine Call.of_pure (fm) ?_ | refine ⟨_, fm, ?_⟩ | refine Call.of_pure (cp) ?_ | refine ⟨_, cp, ?_⟩ | (refine allF_i fun b hb => ?_; replace hD := And.intro hb hD; clear hb; try simp only [fresh_cons, fresh_nil, and_true, ne_eq, neF] at hD) | simp only [appK, appOsK]); try simp only [go_sem, hD, true_implies]) | (refine And.intro (by omega) ?_) | (refine ifI (fun hc => ?_) (fun hc => ?_) <;> first | (exfalso; omega) | skip) | ((first | apply hK | ((iterate 1 (clear hK K)); apply hK) | ((iterate 2 (clear hK K)); apply hK) | ((iterate 3 (clear hK K)); apply hK) | ((iterate 4 (clear hK K)); apply hK) | ((iterate 5 (clear hK K)); apply hK)); clear hK K)
  refine Call.freeze_ints 0 .i64 out6 (by simp) rfl rfl (by simp only [go_sem, hD]; rfl) rfl ?_
  simp only [List.set_cons_zero, go_sem, hD]
  repeat' first | (with_reducible refine And.intro (by omega) ?_) | (refine SW.seq_k fun K hK => ?_) | (refine SW.block ?_) | ((first | refine SW.region ?_ | refine SW.regionD (Checked.mixed Tryd.checked) (by kernel_rfl) ?_ | refine SW.cond ?_ | refine SW.skip ?_ | refine SW.exit ?_ | refine SW.ret ?_ | refine Call.of_pure (c2) ?_ | refine ⟨_, c2, ?_⟩ | refine Call.of_pure (op) ?_ | refine ⟨_, op, ?_⟩ | (refine allF_i fun b hb => ?_; replace hD := And.intro hb hD; clear hb; try simp only [fresh_cons, fresh_nil, and_true, ne_eq, neF] at hD) | simp only [appK, appOsK]); try simp only [go_sem, hD, true_implies]) | (refine And.intro (by omega) ?_) | (refine ifI (fun hc => ?_) (fun hc => ?_) <;> first | (exfalso; omega) | skip) | ((first | apply hK | ((iterate 1 (clear hK K)); apply hK) | ((iterate 2 (clear hK K)); apply hK) | ((iterate 3 (clear hK K)); apply hK) | ((iterate 4 (clear hK K)); apply hK) | ((iterate 5 (clear hK K)); apply hK)); clear hK K)
  · refine Call.freeze_ints 1 .i64 [2] (by simp) rfl rfl (by simp only [go_sem, hD]; rfl) rfl ?_
    simp only [List.set_cons_zero, List.set_cons_succ, go_sem, hD]
    repeat' first | (with_reducible refine And.intro (by omega) ?_) | (refine SW.seq_k fun K hK => ?_) | (refine SW.block ?_) | ((first | refine SW.region ?_ | refine SW.regionD (Checked.mixed Tryd.checked) (by kernel_rfl) ?_ | refine SW.cond ?_ | refine SW.skip ?_ | refine SW.exit ?_ | refine SW.ret ?_ | refine Call.of_pure (eq1) ?_ | refine ⟨_, eq1, ?_⟩ | (refine allF_i fun b hb => ?_; replace hD := And.intro hb hD; clear hb; try simp only [fresh_cons, fresh_nil, and_true, ne_eq, neF] at hD) | simp only [appK, appOsK]); try simp only [go_sem, hD, true_implies]) | (refine And.intro (by omega) ?_) | (refine ifI (fun hc => ?_) (fun hc => ?_) <;> first | (exfalso; omega) | skip) | ((first | apply hK | ((iterate 1 (clear hK K)); apply hK) | ((iterate 2 (clear hK K)); apply hK) | ((iterate 3 (clear hK K)); apply hK) | ((iterate 4 (clear hK K)); apply hK) | ((iterate 5 (clear hK K)); apply hK)); clear hK K)
    refine ret_pure ?_; simp only [resL_tmp, resL_nil, tupOf, go_sem, hD]
  · exact absurd (barr_eq.2 rfl) hc
end Go.Proofs.YtddkacbcecedaaaDoor
/- What the listed package-level variables hold, and what comes in, for the proofs of the laws. -/
set_option linter.unusedSimpArgs false
set_option linter.unusedVariables false
set_option linter.unusedSectionVars false
namespace Go.Proofs.YtddkacbcecedaaaDoor
open Go Go.Ab Go.Ab.A34 Go.ChangeShapes Go.WideShapes Go.ChangeAt Go.RowKit

theorem own : ownKnob Tryd.prog.godebug = .none := by kernel_rfl
theorem laidOut : laidOutB Tryd.prog = true := by kernel_rfl

/-- What is known of the package-level variables. -/
@[reducible] def gE : Gl :=
  ⟨fun g => if g = 2 then .fp (Lib.pow10Tab.map fun z => .sc (.int .u64 z)) else if g = 0 then .fp (dbT.map fun z => .sc (.int .u8 z)) else .any, fun g => if g = 2 then some 20 else .none⟩
theorem tabsE : @Tabs gE := @Tabs.mk gE rfl rfl
theorem bruE : @Bru gE := @Bru.mk gE rfl

theorem t_tab : (Tryd.prog.globals[2]?).map (·.type) = some 153 := by kernel_rfl
theorem g_db : Tryd.prog.globalNamed "math/bits.deBruijn32tab" = some 0 := by kernel_rfl
theorem t_db : (Tryd.prog.globals[0]?).map (·.type) = some 129 := by kernel_rfl
theorem pow_tab {H : Type} : (Rows.laid_internal_strconv_uint64pow10 : DataW H) = Lib.tabData .u64 Lib.pow10Tab := rfl
theorem db_tab {H : Type} : (Rows.laid_math_bits_deBruijn32tab : DataW H) = Lib.tabData .u8 dbT := rfl

/-- A variable's cells, as they are seen. -/
theorem rep_vals {W : World} {E : Env} {nm : String} {g : Nat} {vals : List Value} (hE : ∀ a v, W.cell? a = some v → a.block = g → E.see a v) (hg : Tryd.prog.globalNamed nm = some g) (h : W.var? Tryd.prog nm = some vals.toArray) :
    Rep E (.pointer (some ⟨g, 0, none⟩)) (.fp (vals.map SV.sc)) ∧ HasSize W g (vals.length, none) := by
  unfold World.var? at h
  rw [hg] at h
  simp only [Option.bind_some] at h
  have hh : ∃ e fr, W.heap[g]? = some (.cells vals.toArray e fr) := by
    split at h
    · rename_i cs e fr hc
      rw [hc]
      cases h
      exact ⟨e, fr, rfl⟩
    · cases h
  obtain ⟨e, fr, hh⟩ := hh
  refine ⟨.fp g 0 _ (fun j => vals.getD j undef) (fun j hj => hE _ _ ?_ rfl) (fun j hj => ?_), ⟨_, e, fr, hh, by simp, .inl rfl⟩⟩
  · rw [List.length_map] at hj
    simp [World.cell?, hh, hj]
  · rw [List.length_map] at hj
    simp only [List.getD_eq_getElem?_getD, List.getElem?_map, List.getElem?_eq_getElem hj, Option.map_some, Option.getD_some]
    exact .sc _

theorem gl_of_laid {W : World} (h : laidMetH Tryd.prog Rows.profileOutliersRow.laid W) : ∃ u : Unit, @GlOk gE (envOf (fun _ => False) W) := by
  rw [MakeChecks.laidMetH_plain _ _ _ (by kernel_rfl)] at h
  obtain ⟨ps, ⟨g0, t0, cs0, f0, p0, q0, hg0, ht0, hv0, hd0, ⟨g1, t1, cs1, f1, p1, q1, hg1, ht1, hv1, hd1, ⟨g2, t2, cs2, f2, p2, q2, hg2, ht2, hv2, hd2, _, _⟩, _⟩, _⟩, _, _⟩ := h
  obtain rfl := Option.some.inj (g_tab.symm.trans hg2)
  obtain rfl := Option.some.inj (t_tab.symm.trans ht2)
  obtain rfl := Option.some.inj (g_db.symm.trans hg0)
  obtain rfl := Option.some.inj (t_db.symm.trans ht0)
  rw [pow_tab] at hd2
  rw [db_tab] at hd0
  have hc2 := Lib.cells_of_tab (k := .u64) Tryd.underlying153 Tryd.underlying80 (by kernel_rfl) (by kernel_rfl) hd2
  have hc0 := Lib.cells_of_tab (k := .u8) Tryd.underlying129 Tryd.underlying5 (by kernel_rfl) (by kernel_rfl) hd0
  refine ⟨(), ?_⟩
  obtain ⟨r1, r2⟩ := rep_vals (E := envOf (fun _ => False) W) (fun a v ha _ => ⟨id, ha⟩) g_tab (vals := Lib.pow10Tab.map fun z => Value.int .u64 z) (by rw [hv2, ← hc2])
  obtain ⟨r3, _⟩ := rep_vals (E := envOf (fun _ => False) W) (fun a v ha _ => ⟨id, ha⟩) g_db (vals := dbT.map fun z => Value.int .u8 z) (by rw [hv0, ← hc0])
  rw [List.map_map] at r1 r3
  rw [List.length_map, Lib.pow10Tab_length] at r2
  intro g
  by_cases h1 : g = 2
  · subst h1
    exact ⟨r1, fun m hm => by cases hm; exact r2⟩
  · refine ⟨?_, fun m hm => ?_⟩
    · show Rep _ _ (if g = 2 then _ else if g = 0 then _ else SV.any)
      rw [if_neg h1]
      by_cases h4 : g = 0
      · rw [if_pos h4]
        subst h4
        exact r3
      · rw [if_neg h4]
        exact .any _
    · exfalso
      have hm' : (if g = 2 then some 20 else Option.none) = some m := hm
      rw [if_neg h1] at hm'
      cases hm'

theorem fits64 {n : Int} (h : fits .i64 n) : In64 n := by
  unfold fits Lit.wf at h
  simp only [Bool.and_eq_true, decide_eq_true_eq] at h
  exact ⟨h.1, h.2⟩
theorem fun_64 {l : List Int} (h : ∀ a ∈ l, fits .i64 a) : ∀ n ∈ l, In64 n := fun n hn => fits64 (h n hn)
theorem fits8 {n : Int} (h : fits .u8 n) : 0 ≤ n ∧ n < 256 := by
  unfold fits Lit.wf at h
  simp only [Bool.and_eq_true, decide_eq_true_eq] at h
  have h1 : (0 : Int) ≤ n := h.1
  have h2 : n ≤ 255 := h.2
  exact ⟨h1, by omega⟩
/-- Nothing is known of the package-level variables. -/
@[reducible] def gN : Gl := ⟨fun _ => .any, fun _ => .none⟩
set_option maxRecDepth 100000 in
/-- A recipe that came in. -/
theorem rd_rec [Gl] : Rd Tryd.prog 25 RCC okRc :=
  Rd.map (Rd.struct Tryd.underlying25 (by kernel_rfl) (RdF.cons rfl 1 (by kernel_rfl) (Rd.int Tryd.underlying5) (RdF.cons rfl 1 (by kernel_rfl) (Rd.int Tryd.underlying5) (RdF.cons rfl 1 (by kernel_rfl) (Rd.slice Tryd.underlying23 1 (by kernel_rfl) (by decide) (Rd.slice Tryd.underlying64 1 (by kernel_rfl) (by decide) (Rd.int Tryd.underlying5))) (RdF.nil _)))))
    (fun x => ⟨x.1, x.2.1, x.2.2.1⟩) (fun _ _ => rfl) (fun x h => ⟨fits8 h.1, fits8 h.2.1, fun r hr c hc => fits8 ((h.2.2.1.2 r hr).2 c hc)⟩)
end Go.Proofs.YtddkacbcecedaaaDoor
