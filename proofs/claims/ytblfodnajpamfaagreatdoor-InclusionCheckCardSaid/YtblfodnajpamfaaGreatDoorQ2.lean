/- Several texts in one: C1, C2, C3, C4, P3, M1. -/
import Derived.Test.YtblfodnajpamfaaGreatDoorQ1
import Derived.Test.YtblfodnajpamfaaGreatDoorZ14
import Derived.Test.YtblfodnajpamfaaGreatDoorZ7
set_option linter.unusedSimpArgs false
set_option linter.unusedVariables false
set_option linter.unusedSectionVars false
set_option maxHeartbeats 4000000
set_option maxRecDepth 20000
namespace Go.Ab.A15
open Go Go.Ab Go.Ab.A34
def t0 : Tb := ⟨⟨#[]⟩, [], []⟩
abbrev tC (t : Tb) : List SV := [Str t.name, SL t.attrs, RL t.rows]
def tF (l : List Tb) (i : Nat) : List SV := tC (l.getD i t0)
abbrev TL (l : List Tb) : SV := .fl l.length 3 (tF l)
abbrev DB (l : List Tb) : SV := .agg [TL l]
def iF (l : List Int) (i : Nat) : List SV := [I64 (l.getD i 0)]
abbrev IL (l : List Int) : SV := .fl l.length 1 (iF l)
abbrev dC (d : Dp) : List SV := [Str d.f, IL d.l, Str d.t, IL d.r]
abbrev DV (d : Dp) : SV := .agg (dC d)
def tabI (x : ByteArray) : Nat → List Tb → Int
  | _, [] => -1
  | i, y :: l => if y.name = x then (i : Int) else tabI x (i + 1) l
theorem tabI_step {x : ByteArray} {l : List Tb} {i : Nat} (h : i < l.length) : tabI x i (l.drop i) = if (l.getD i t0).name = x then (i : Int) else tabI x (i + 1) (l.drop (i + 1)) := by
  have g : l.getD i t0 = l[i] := by simp [List.getD_eq_getElem?_getD, h]
  rw [List.drop_eq_getElem_cons h, g]
  rfl
theorem tabI_is {x : ByteArray} : ∀ {l : List Tb} {i : Nat}, (tabI x i l = -1 ∧ ∀ t ∈ l, t.name ≠ x) ∨ ∃ j, tabI x i l = ((i + j : Nat) : Int) ∧ j < l.length ∧ (l.getD j t0).name = x ∧ ∀ k, k < j → (l.getD k t0).name ≠ x
  | [], i => .inl ⟨rfl, fun t ht => by cases ht⟩
  | y :: l, i => by
    unfold tabI
    by_cases h : y.name = x
    · rw [if_pos h]
      exact .inr ⟨0, rfl, by simp, by simp [h], fun k hk => absurd hk (Nat.not_lt_zero _)⟩
    · rw [if_neg h]
      rcases tabI_is (x := x) (l := l) (i := i + 1) with ⟨h1, h2⟩ | ⟨j, e1, e2, e3, e4⟩
      · refine .inl ⟨h1, fun t ht => ?_⟩
        rcases List.mem_cons.1 ht with rfl | ht
        · exact h
        · exact h2 t ht
      · refine .inr ⟨j + 1, by rw [e1]; congr 1; omega, by simpa using e2, by simpa using e3, fun k hk => ?_⟩
        cases k with
        | zero => simpa using h
        | succ k => simpa using e4 k (by omega)
theorem iF_take {l : List Int} {i j : Nat} (hj : j < i) : iF l j = [I64 ((l.take i).getD j 0)] := by
  rw [getD_take _ _ _ _ hj]
  rfl
theorem tF_take {l : List Tb} {i j : Nat} (hj : j < i) : tF l j = tC ((l.take i).getD j t0) := by
  rw [getD_take _ _ _ _ hj]
  rfl
def winB (l : List Int) (n : Int) : Bool := l.all fun a => decide (0 ≤ a) && decide (a < n)
theorem winB_iff {l : List Int} {n : Int} : winB l n = true ↔ ∀ a ∈ l, 0 ≤ a ∧ a < n := by
  unfold winB
  simp [List.all_eq_true]
theorem posFi_step {p : Int → Bool} {l : List Int} {i : Nat} (h : i < l.length) : posF p i (l.drop i) = if p (l.getD i 0) = true then (i : Int) else posF p (i + 1) (l.drop (i + 1)) := posF_step 0 h
theorem nodup_take {l : List Int} : l.Nodup ↔ ∀ i, i < l.length → l.getD i 0 ∉ l.take i := by
  constructor
  · intro h i hi hm
    obtain ⟨j, hj, e⟩ := List.getElem_of_mem hm
    rw [List.length_take] at hj
    rw [List.getElem_take] at e
    have hj2 : j < l.length := by omega
    have := nodup_get h (i := j) (j := i) hj2 hi (by rw [← e]; simp [List.getD_eq_getElem?_getD, hj2])
    omega
  · intro h
    refine List.pairwise_iff_getElem.2 fun i j hi hj hij e => h j hj ?_
    have g : l.getD j 0 = l[j] := by simp [List.getD_eq_getElem?_getD, hj]
    rw [g, ← e]
    have hl : i < (l.take j).length := by rw [List.length_take]; omega
    have : (l.take j)[i] = l[i] := List.getElem_take
    rw [← this]
    exact List.getElem_mem hl
theorem nodup_at {l : List Int} : l.Nodup ↔ ∀ i, i < l.length → atI (l.getD i 0) 0 l = (i : Int) := by
  constructor
  · exact fun h i hi => atI_nodup h hi
  · intro h
    refine List.pairwise_iff_getElem.2 fun i j hi hj hij e => ?_
    have g1 : l.getD i 0 = l[i] := by simp [List.getD_eq_getElem?_getD, hi]
    have g2 : l.getD j 0 = l[j] := by simp [List.getD_eq_getElem?_getD, hj]
    have h1 := h i hi
    have h2 := h j hj
    rw [g1, e] at h1
    rw [g2] at h2
    omega
def fitsS (db : List Tb) (d : Dp) : Int :=
  if tabI d.f 0 db < 0 ∨ tabI d.t 0 db < 0 then 4
  else if ¬ d.l.length = d.r.length ∨ winB d.l (db.getD (tabI d.f 0 db).toNat t0).attrs.length = false ∨ winB d.r (db.getD (tabI d.t 0 db).toNat t0).attrs.length = false then 6
  else if d.l.Nodup ∧ d.r.Nodup then 0 else 1
end Go.Ab.A15
namespace Go.Proofs.YtblfodnajpamfaaGreatDoor
open Go Go.Ab Go.Ab.A34 Go.Ab.A15
variable [Gl] [Tabs]
theorem find1_p (x : ByteArray) (t : Tb) : PCall Tryz.prog 72 [TB t, .fp [Str x]] (SB (decide (t.name = x))) := by
  obtain ⟨a, b, c⟩ := t
  simp only
  by_cases he : a = x
  · have ee : (a.toList == x.toList) = true := barr_eq.2 he
    rw [decide_eq_true he]
    refine Call.enter' (N := 8) (rs := [.tmp 3]) Tryz.func72 rfl rfl rfl (by decide) rfl ?_; simp only [argT]; have hD : (0 : Nat) = 0 := rfl
    repeat' first | (refine SW.seq_k fun K hK => ?_) | ((first | refine SW.region ?_ | refine SW.ret ?_ | (refine allF_i fun b hb => ?_; replace hD := And.intro hb hD; clear hb; try simp only [fresh_cons, fresh_nil, and_true, ne_eq, neF] at hD)); try simp only [go_sem, hD, ee]) | (apply hK; clear hK K)
    refine ret_pure ?_; simp only [resL_tmp, resL_nil, tupOf, go_sem, hD]
  · have ee : (a.toList == x.toList) = false := by rw [Bool.eq_false_iff]; exact fun h => he (barr_eq.1 h)
    rw [decide_eq_false he]
    refine Call.enter' (N := 8) (rs := [.tmp 3]) Tryz.func72 rfl rfl rfl (by decide) rfl ?_; simp only [argT]; have hD : (0 : Nat) = 0 := rfl
    repeat' first | (refine SW.seq_k fun K hK => ?_) | ((first | refine SW.region ?_ | refine SW.ret ?_ | (refine allF_i fun b hb => ?_; replace hD := And.intro hb hD; clear hb; try simp only [fresh_cons, fresh_nil, and_true, ne_eq, neF] at hD)); try simp only [go_sem, hD, ee]) | (apply hK; clear hK K)
    refine ret_pure ?_; simp only [resL_tmp, resL_nil, tupOf, go_sem, hD]
theorem indexT_p (x : ByteArray) (l : List Tb) (n : Nat) (hl : n ≤ 9223372036854775807) (hn : l.length = n) (f : Nat → List SV) (hf : ∀ i, i < n → f i = tC (l.getD i t0)) : PCall Tryz.prog 71 [.fl n 3 f, .fn (.func 72) [] [.fp [Str x]]] (I64 (tabI x 0 l)) := by
  subst hn
  obtain ⟨R, hR⟩ : ∃ R, R = tabI x 0 l := ⟨_, rfl⟩
  rw [← hR]
  refine Call.enter' (N := 19) (rs := [.tmp 4]) Tryz.func71 rfl rfl rfl (by decide) rfl ?_; simp only [argT]; have hD : (0 : Nat) = 0 := rfl
  repeat' first | (refine SW.seq_k fun K hK => ?_) | (refine SW.block ?_) | (refine SW.region ?_; try simp only [go_sem, hD]) | (apply hK; clear hK K)
  obtain ⟨I, hI⟩ : ∃ I : Nat → St → Prop, ∀ k S, I k S ↔ (∃ (i : Nat) , k = l.length - i ∧ i ≤ l.length ∧ R = tabI x i (l.drop i) ∧ S = ⟨[(0, .fl l.length 3 f), (1, .fn (.func 72) [] [.fp [Str x]]), (7, I64 l.length), (8, I64 i)], []⟩) := ⟨fun k S => _, fun _ _ => Iff.rfl⟩
  refine SW.loop' I (l.length) ((hI _ _).2 ⟨0, rfl, Nat.zero_le _, by rw [List.drop_zero]; exact hR, rfl⟩) (by repeat' (first | exact rfl | exact trivial | constructor)) ?_
  intro k S hIn
  obtain ⟨i, rfl, hi, hC, rfl⟩ := (hI _ _).1 hIn
  clear hIn
  have ie : ((i : Nat) : Int).toNat = i := Int.toNat_natCast _
  have i0 : (0 : Int) ≤ ((i : Nat) : Int) := by omega
  clear hR
  by_cases hlt : i < l.length
  · have hli : ((i : Nat) : Int) < (((l.length) : Nat) : Int) := by omega
    have w1 : IntKind.i64.wrap ((i : Int) + 1) = ((i + 1 : Nat) : Int) := by rw [i64_wrap (by omega) (by omega)]; omega
    rw [tabI_step hlt] at hC
    have fi := hf i hlt
    have c := find1_p x (l.getD i t0)
    generalize l.getD i t0 = t at *
    by_cases he : t.name = x
    · rw [if_pos he] at hC
      rw [decide_eq_true he] at c
      subst hC
      repeat' first | (refine SW.seq_k fun K hK => ?_) | (refine SW.block ?_) | ((first | refine SW.region ?_ | refine SW.cond ?_ | refine SW.skip ?_ | refine SW.ret ?_ | refine Call.of_pure (c) ?_); try simp only [go_sem, hD, hli, ie, i0, w1, fi]) | (apply hK; clear hK K)
      refine ret_pure ?_; simp only [resL_tmp, resL_nil, tupOf, go_sem, hD]
    · rw [if_neg he] at hC
      rw [decide_eq_false he] at c
      repeat' first | (refine SW.seq_k fun K hK => ?_) | (refine SW.block ?_) | ((first | refine SW.region ?_ | refine SW.cond ?_ | refine SW.skip ?_ | refine Call.of_pure (c) ?_); try simp only [go_sem, hD, hli, ie, i0, w1, fi]) | (apply hK; clear hK K)
      refine Rnd.sub (l.length - (i + 1)) (by omega) ((hI _ _).2 ⟨i + 1, rfl, by omega, hC, rfl⟩) (by repeat' (first | exact rfl | exact trivial | constructor))
  · have hli : ¬ ((i : Nat) : Int) < (((l.length) : Nat) : Int) := by omega
    rw [List.drop_of_length_le (by omega)] at hC
    have hC2 : R = -1 := hC
    subst hC2
    repeat' first | (refine SW.seq_k fun K hK => ?_) | ((first | refine SW.region ?_ | refine SW.cond ?_ | refine SW.exit ?_ | refine SW.ret ?_); try simp only [go_sem, hD, hli]) | (apply hK; clear hK K) | (clear hK K; apply hK; clear hK K)
    refine ret_pure ?_; simp only [resL_tmp, resL_nil, tupOf, go_sem, hD]
theorem find_p (x : ByteArray) (l : List Tb) (n : Nat) (hl : n ≤ 9223372036854775807) (hn : l.length = n) (f : Nat → List SV) (hf : ∀ i, i < n → f i = tC (l.getD i t0)) : PCall Tryz.prog 47 [.fl n 3 f, Str x] (I64 (tabI x 0 l)) := by
  have ix := indexT_p x l n hl hn f hf
  generalize tabI x 0 l = R at *
  refine Call.enter' (N := 8) (rs := [.tmp 4]) Tryz.func47 rfl rfl rfl (by decide) rfl ?_; simp only [argT]; have hD : (0 : Nat) = 0 := rfl
  repeat' first | ((refine Ab.SW.le (St.le_freezeP (i := 3) (n := 1) rfl (by rw [find_cons, if_pos rfl]) (by exact Nat.le_refl 1)) ?_); (rw [del_head]); (simp only [getN, Blk.get])) | (refine SW.seq_k fun K hK => ?_) | ((first | refine SW.region ?_ | refine SW.ret ?_ | refine Call.of_pure (ix) ?_ | (refine allF_i fun b hb => ?_; replace hD := And.intro hb hD; clear hb; try simp only [fresh_cons, fresh_nil, and_true, ne_eq, neF] at hD)); try simp only [go_sem, hD]) | (apply hK; clear hK K)
  refine ret_pure ?_; simp only [resL_tmp, resL_nil, tupOf, go_sem, hD]
theorem table_r (x : ByteArray) (l : List Tb) (n : Nat) (hl : n ≤ 9223372036854775807) (hn : l.length = n) (f : Nat → List SV) (hf : ∀ i, i < n → f i = tC (l.getD i t0)) : PCall Tryz.prog 52 [.fl n 3 f, Str x] (I64 (tabI x 0 l)) := by
  subst hn
  obtain ⟨R, hR⟩ : ∃ R, R = tabI x 0 l := ⟨_, rfl⟩
  rw [← hR]
  refine Call.enter' (N := 20) (rs := [.tmp 4]) Tryz.func52 rfl rfl rfl (by decide) rfl ?_; simp only [argT]; have hD : (0 : Nat) = 0 := rfl
  repeat' first | (refine SW.seq_k fun K hK => ?_) | (refine SW.block ?_) | (refine SW.region ?_; try simp only [go_sem, hD]) | (apply hK; clear hK K)
  obtain ⟨I, hI⟩ : ∃ I : Nat → St → Prop, ∀ k S, I k S ↔ (∃ (i : Nat) , k = l.length - i ∧ i ≤ l.length ∧ R = tabI x i (l.drop i) ∧ S = ⟨[(0, .fl l.length 3 f), (1, Str x), (5, I64 i)], []⟩) := ⟨fun k S => _, fun _ _ => Iff.rfl⟩
  refine SW.loop' I (l.length) ((hI _ _).2 ⟨0, rfl, Nat.zero_le _, by rw [List.drop_zero]; exact hR, rfl⟩) (by repeat' (first | exact rfl | exact trivial | constructor)) ?_
  intro k S hIn
  obtain ⟨i, rfl, hi, hC, rfl⟩ := (hI _ _).1 hIn
  clear hIn
  have ie : ((i : Nat) : Int).toNat = i := Int.toNat_natCast _
  have i0 : (0 : Int) ≤ ((i : Nat) : Int) := by omega
  clear hR
  by_cases hlt : i < l.length
  · have hli : ((i : Nat) : Int) < (((l.length) : Nat) : Int) := by omega
    have w1 : IntKind.i64.wrap ((i : Int) + 1) = ((i + 1 : Nat) : Int) := by rw [i64_wrap (by omega) (by omega)]; omega
    rw [tabI_step hlt] at hC
    have fi := hf i hlt
    generalize l.getD i t0 = t at *
    obtain ⟨a, b, c⟩ := t
    simp only at hC
    by_cases he : a = x
    · rw [if_pos he] at hC
      have ee : (a.toList == x.toList) = true := barr_eq.2 he
      subst hC
      repeat' first | (refine SW.seq_k fun K hK => ?_) | (refine SW.block ?_) | ((first | refine SW.region ?_ | refine SW.cond ?_ | refine SW.skip ?_ | refine SW.ret ?_); try simp only [go_sem, hD, hli, ie, i0, w1, fi, ee]) | (apply hK; clear hK K)
      refine ret_pure ?_; simp only [resL_tmp, resL_nil, tupOf, go_sem, hD]
    · rw [if_neg he] at hC
      have ee : (a.toList == x.toList) = false := by rw [Bool.eq_false_iff]; exact fun h => he (barr_eq.1 h)
      repeat' first | (refine SW.seq_k fun K hK => ?_) | (refine SW.block ?_) | ((first | refine SW.region ?_ | refine SW.cond ?_ | refine SW.skip ?_); try simp only [go_sem, hD, hli, ie, i0, w1, fi, ee]) | (apply hK; clear hK K)
      refine Rnd.sub (l.length - (i + 1)) (by omega) ((hI _ _).2 ⟨i + 1, rfl, by omega, hC, rfl⟩) (by repeat' (first | exact rfl | exact trivial | constructor))
  · have hli : ¬ ((i : Nat) : Int) < (((l.length) : Nat) : Int) := by omega
    rw [List.drop_of_length_le (by omega)] at hC
    have hC2 : R = -1 := hC
    subst hC2
    repeat' first | (refine SW.seq_k fun K hK => ?_) | ((first | refine SW.region ?_ | refine SW.cond ?_ | refine SW.exit ?_ | refine SW.ret ?_); try simp only [go_sem, hD, hli]) | (apply hK; clear hK K) | (clear hK K; apply hK; clear hK K)
    refine ret_pure ?_; simp only [resL_tmp, resL_nil, tupOf, go_sem, hD]
/-! numbers -/
theorem index_i (x : Int) (l : List Int) (n : Nat) (hl : n ≤ 9223372036854775807) (hn : l.length = n) (f : Nat → List SV) (hf : ∀ i, i < n → f i = [I64 (l.getD i 0)]) : PCall Tryz.prog 96 [.fl n 1 f, I64 x] (I64 (atI x 0 l)) := by
  subst hn
  obtain ⟨R, hR⟩ : ∃ R, R = atI x 0 l := ⟨_, rfl⟩
  rw [← hR]
  refine Call.enter' (N := 19) (rs := [.tmp 4]) Tryz.func96 rfl rfl rfl (by decide) rfl ?_; simp only [argT]; have hD : (0 : Nat) = 0 := rfl
  repeat' first | (refine SW.seq_k fun K hK => ?_) | (refine SW.block ?_) | (refine SW.region ?_; try simp only [go_sem, hD]) | (apply hK; clear hK K)
  obtain ⟨I, hI⟩ : ∃ I : Nat → St → Prop, ∀ k S, I k S ↔ (∃ (i : Nat) , k = l.length - i ∧ i ≤ l.length ∧ R = atI x i (l.drop i) ∧ S = ⟨[(0, .fl l.length 1 f), (1, I64 x), (7, I64 l.length), (8, I64 i)], []⟩) := ⟨fun k S => _, fun _ _ => Iff.rfl⟩
  refine SW.loop' I (l.length) ((hI _ _).2 ⟨0, rfl, Nat.zero_le _, by rw [List.drop_zero]; exact hR, rfl⟩) (by repeat' (first | exact rfl | exact trivial | constructor)) ?_
  intro k S hIn
  obtain ⟨i, rfl, hi, hC, rfl⟩ := (hI _ _).1 hIn
  clear hIn
  have ie : ((i : Nat) : Int).toNat = i := Int.toNat_natCast _
  have i0 : (0 : Int) ≤ ((i : Nat) : Int) := by omega
  clear hR
  by_cases hlt : i < l.length
  · have hli : ((i : Nat) : Int) < (((l.length) : Nat) : Int) := by omega
    have w1 : IntKind.i64.wrap ((i : Int) + 1) = ((i + 1 : Nat) : Int) := by rw [i64_wrap (by omega) (by omega)]; omega
    rw [atI_step hlt] at hC
    have fi := hf i hlt
    generalize l.getD i 0 = t at *
    by_cases he : t = x
    · rw [if_pos he] at hC
      subst hC
      repeat' first | (refine SW.seq_k fun K hK => ?_) | (refine SW.block ?_) | ((first | refine SW.region ?_ | refine SW.cond ?_ | refine SW.skip ?_ | refine SW.ret ?_); try simp only [go_sem, hD, hli, ie, i0, w1, fi, he]) | (apply hK; clear hK K)
      refine ret_pure ?_; simp only [resL_tmp, resL_nil, tupOf, go_sem, hD]
    · rw [if_neg he] at hC
      have he2 : ¬ x = t := fun e => he e.symm
      repeat' first | (refine SW.seq_k fun K hK => ?_) | (refine SW.block ?_) | ((first | refine SW.region ?_ | refine SW.cond ?_ | refine SW.skip ?_); try simp only [go_sem, hD, hli, ie, i0, w1, fi, he, he2]) | (apply hK; clear hK K)
      refine Rnd.sub (l.length - (i + 1)) (by omega) ((hI _ _).2 ⟨i + 1, rfl, by omega, hC, rfl⟩) (by repeat' (first | exact rfl | exact trivial | constructor))
  · have hli : ¬ ((i : Nat) : Int) < (((l.length) : Nat) : Int) := by omega
    rw [List.drop_of_length_le (by omega)] at hC
    have hC2 : R = -1 := hC
    subst hC2
    repeat' first | (refine SW.seq_k fun K hK => ?_) | ((first | refine SW.region ?_ | refine SW.cond ?_ | refine SW.exit ?_ | refine SW.ret ?_); try simp only [go_sem, hD, hli]) | (apply hK; clear hK K) | (clear hK K; apply hK; clear hK K)
    refine ret_pure ?_; simp only [resL_tmp, resL_nil, tupOf, go_sem, hD]
theorem at_r (x : Int) (l : List Int) (n : Nat) (hl : n ≤ 9223372036854775807) (hn : l.length = n) (f : Nat → List SV) (hf : ∀ i, i < n → f i = [I64 (l.getD i 0)]) : PCall Tryz.prog 65 [.fl n 1 f, I64 x] (I64 (atI x 0 l)) := by
  subst hn
  obtain ⟨R, hR⟩ : ∃ R, R = atI x 0 l := ⟨_, rfl⟩
  rw [← hR]
  refine Call.enter' (N := 19) (rs := [.tmp 4]) Tryz.func65 rfl rfl rfl (by decide) rfl ?_; simp only [argT]; have hD : (0 : Nat) = 0 := rfl
  repeat' first | (refine SW.seq_k fun K hK => ?_) | (refine SW.block ?_) | (refine SW.region ?_; try simp only [go_sem, hD]) | (apply hK; clear hK K)
  obtain ⟨I, hI⟩ : ∃ I : Nat → St → Prop, ∀ k S, I k S ↔ (∃ (i : Nat) , k = l.length - i ∧ i ≤ l.length ∧ R = atI x i (l.drop i) ∧ S = ⟨[(0, .fl l.length 1 f), (1, I64 x), (5, I64 i)], []⟩) := ⟨fun k S => _, fun _ _ => Iff.rfl⟩
  refine SW.loop' I (l.length) ((hI _ _).2 ⟨0, rfl, Nat.zero_le _, by rw [List.drop_zero]; exact hR, rfl⟩) (by repeat' (first | exact rfl | exact trivial | constructor)) ?_
  intro k S hIn
  obtain ⟨i, rfl, hi, hC, rfl⟩ := (hI _ _).1 hIn
  clear hIn
  have ie : ((i : Nat) : Int).toNat = i := Int.toNat_natCast _
  have i0 : (0 : Int) ≤ ((i : Nat) : Int) := by omega
  clear hR
  by_cases hlt : i < l.length
  · have hli : ((i : Nat) : Int) < (((l.length) : Nat) : Int) := by omega
    have w1 : IntKind.i64.wrap ((i : Int) + 1) = ((i + 1 : Nat) : Int) := by rw [i64_wrap (by omega) (by omega)]; omega
    rw [atI_step hlt] at hC
    have fi := hf i hlt
    generalize l.getD i 0 = t at *
    by_cases he : t = x
    · rw [if_pos he] at hC
      subst hC
      repeat' first | (refine SW.seq_k fun K hK => ?_) | (refine SW.block ?_) | ((first | refine SW.region ?_ | refine SW.cond ?_ | refine SW.skip ?_ | refine SW.ret ?_); try simp only [go_sem, hD, hli, ie, i0, w1, fi, he]) | (apply hK; clear hK K)
      refine ret_pure ?_; simp only [resL_tmp, resL_nil, tupOf, go_sem, hD]
    · rw [if_neg he] at hC
      repeat' first | (refine SW.seq_k fun K hK => ?_) | (refine SW.block ?_) | ((first | refine SW.region ?_ | refine SW.cond ?_ | refine SW.skip ?_); try simp only [go_sem, hD, hli, ie, i0, w1, fi, he]) | (apply hK; clear hK K)
      refine Rnd.sub (l.length - (i + 1)) (by omega) ((hI _ _).2 ⟨i + 1, rfl, by omega, hC, rfl⟩) (by repeat' (first | exact rfl | exact trivial | constructor))
  · have hli : ¬ ((i : Nat) : Int) < (((l.length) : Nat) : Int) := by omega
    rw [List.drop_of_length_le (by omega)] at hC
    have hC2 : R = -1 := hC
    subst hC2
    repeat' first | (refine SW.seq_k fun K hK => ?_) | ((first | refine SW.region ?_ | refine SW.cond ?_ | refine SW.exit ?_ | refine SW.ret ?_); try simp only [go_sem, hD, hli]) | (apply hK; clear hK K) | (clear hK K; apply hK; clear hK K)
    refine ret_pure ?_; simp only [resL_tmp, resL_nil, tupOf, go_sem, hD]
theorem contains_i (x : Int) (l : List Int) (n : Nat) (hl : n ≤ 9223372036854775807) (hn : l.length = n) (f : Nat → List SV) (hf : ∀ i, i < n → f i = [I64 (l.getD i 0)]) : PCall Tryz.prog 115 [.fl n 1 f, I64 x] (SB (decide (0 ≤ atI x 0 l))) := by
  have ix := index_i x l n hl hn f hf
  generalize atI x 0 l = R at *
  refine Call.enter' (N := 9) (rs := [.tmp 4]) Tryz.func115 rfl rfl rfl (by decide) rfl ?_; simp only [argT]; have hD : (0 : Nat) = 0 := rfl
  repeat' first | (refine SW.seq_k fun K hK => ?_) | ((first | refine SW.region ?_ | refine SW.ret ?_ | refine Call.of_pure (ix) ?_); try simp only [go_sem, hD]) | (apply hK; clear hK K)
  refine ret_pure ?_; simp only [resL_tmp, resL_nil, tupOf, go_sem, hD]
theorem within1_p (a n : Int) : PCall Tryz.prog 114 [I64 a, .fp [I64 n]] (SB (!(decide (0 ≤ a) && decide (a < n)))) := by
  by_cases h1 : a < 0
  · rw [decide_eq_false (show ¬ 0 ≤ a by omega)]
    refine Call.enter' (N := 11) (rs := [.tmp 3]) Tryz.func114 rfl rfl rfl (by decide) rfl ?_; simp only [argT]; have hD : (0 : Nat) = 0 := rfl
    repeat' first | (refine SW.seq_k fun K hK => ?_) | ((first | refine SW.region ?_ | refine SW.ret ?_); try simp only [go_sem, hD, h1]) | (apply hK; clear hK K)
    refine ret_pure ?_; simp only [resL_tmp, resL_nil, tupOf, go_sem, hD]
  · rw [decide_eq_true (show 0 ≤ a by omega)]
    by_cases h2 : a < n
    · have h3 : ¬ n ≤ a := by omega
      rw [decide_eq_true h2]
      refine Call.enter' (N := 11) (rs := [.tmp 3]) Tryz.func114 rfl rfl rfl (by decide) rfl ?_; simp only [argT]; have hD : (0 : Nat) = 0 := rfl
      repeat' first | (refine SW.seq_k fun K hK => ?_) | ((first | refine SW.region ?_ | refine SW.ret ?_); try simp only [go_sem, hD, h1, h3]) | (apply hK; clear hK K)
      refine ret_pure ?_; simp only [resL_tmp, resL_nil, tupOf, go_sem, hD]
    · have h3 : n ≤ a := by omega
      rw [decide_eq_false h2]
      refine Call.enter' (N := 11) (rs := [.tmp 3]) Tryz.func114 rfl rfl rfl (by decide) rfl ?_; simp only [argT]; have hD : (0 : Nat) = 0 := rfl
      repeat' first | (refine SW.seq_k fun K hK => ?_) | ((first | refine SW.region ?_ | refine SW.ret ?_); try simp only [go_sem, hD, h1, h3]) | (apply hK; clear hK K)
      refine ret_pure ?_; simp only [resL_tmp, resL_nil, tupOf, go_sem, hD]
theorem indexF_i (g : FuncId) (caps : List SV) (p : Int → Bool) (hg : ∀ v, PCall Tryz.prog g (I64 v :: caps) (SB (p v))) (l : List Int) (hl : l.length ≤ 9223372036854775807) : PCall Tryz.prog 135 [IL l, .fn (.func g) [] caps] (I64 (posF p 0 l)) := by
  obtain ⟨R, hR⟩ : ∃ R, R = posF p 0 l := ⟨_, rfl⟩
  rw [← hR]
  refine Call.enter' (N := 19) (rs := [.tmp 4]) Tryz.func135 rfl rfl rfl (by decide) rfl ?_; simp only [argT]; have hD : (0 : Nat) = 0 := rfl
  repeat' first | (refine SW.seq_k fun K hK => ?_) | (refine SW.block ?_) | (refine SW.region ?_; try simp only [go_sem, hD]) | (apply hK; clear hK K)
  obtain ⟨I, hI⟩ : ∃ I : Nat → St → Prop, ∀ k S, I k S ↔ (∃ (i : Nat) , k = l.length - i ∧ i ≤ l.length ∧ R = posF p i (l.drop i) ∧ S = ⟨[(0, IL l), (1, .fn (.func g) [] caps), (7, I64 l.length), (8, I64 i)], []⟩) := ⟨fun k S => _, fun _ _ => Iff.rfl⟩
  refine SW.loop' I (l.length) ((hI _ _).2 ⟨0, rfl, Nat.zero_le _, hR, rfl⟩) (by repeat' (first | exact rfl | exact trivial | constructor)) ?_
  intro k S hIn
  obtain ⟨i, rfl, hi, hC, rfl⟩ := (hI _ _).1 hIn
  clear hIn
  have ie : ((i : Nat) : Int).toNat = i := Int.toNat_natCast _
  have i0 : (0 : Int) ≤ ((i : Nat) : Int) := by omega
  clear hR
  by_cases hlt : i < l.length
  · have hli : ((i : Nat) : Int) < (((l.length) : Nat) : Int) := by omega
    have w1 : IntKind.i64.wrap ((i : Int) + 1) = ((i + 1 : Nat) : Int) := by rw [i64_wrap (by omega) (by omega)]; omega
    rw [posFi_step hlt] at hC
    have fi : iF l i = [I64 (l.getD i 0)] := rfl
    have c := hg (l.getD i 0)
    generalize l.getD i 0 = t at *
    cases he : p t with
    | true =>
      rw [he] at c
      rw [he, if_pos rfl] at hC
      subst hC
      repeat' first | (refine SW.seq_k fun K hK => ?_) | (refine SW.block ?_) | ((first | refine SW.region ?_ | refine SW.cond ?_ | refine SW.skip ?_ | refine SW.ret ?_ | refine Call.of_pure (c) ?_); try simp only [go_sem, hD, hli, ie, i0, w1, fi]) | (apply hK; clear hK K)
      refine ret_pure ?_; simp only [resL_tmp, resL_nil, tupOf, go_sem, hD]
    | false =>
      rw [he] at c
      rw [he, if_neg (by simp)] at hC
      repeat' first | (refine SW.seq_k fun K hK => ?_) | (refine SW.block ?_) | ((first | refine SW.region ?_ | refine SW.cond ?_ | refine SW.skip ?_ | refine Call.of_pure (c) ?_); try simp only [go_sem, hD, hli, ie, i0, w1, fi]) | (apply hK; clear hK K)
      refine Rnd.sub (l.length - (i + 1)) (by omega) ((hI _ _).2 ⟨i + 1, rfl, by omega, hC, rfl⟩) (by repeat' (first | exact rfl | exact trivial | constructor))
  · have hli : ¬ ((i : Nat) : Int) < (((l.length) : Nat) : Int) := by omega
    rw [List.drop_of_length_le (by omega)] at hC
    have hC2 : R = -1 := hC
    subst hC2
    repeat' first | (refine SW.seq_k fun K hK => ?_) | ((first | refine SW.region ?_ | refine SW.cond ?_ | refine SW.exit ?_ | refine SW.ret ?_); try simp only [go_sem, hD, hli]) | (apply hK; clear hK K) | (clear hK K; apply hK; clear hK K)
    refine ret_pure ?_; simp only [resL_tmp, resL_nil, tupOf, go_sem, hD]
theorem within_p (l : List Int) (n : Int) (hl : l.length ≤ 9223372036854775807) : PCall Tryz.prog 93 [IL l, I64 n] (SB (winB l n)) := by
  have ix := indexF_i 114 [.fp [I64 n]] (fun a => !(decide (0 ≤ a) && decide (a < n))) (fun v => within1_p v n) l hl
  have hm := posF_any (fun a => !(decide (0 ≤ a) && decide (a < n))) l 0
  have cf : PCall Tryz.prog 113 [IL l, .fn (.func 114) [] [.fp [I64 n]]] (SB (!(winB l n))) := by
    have e : decide (0 ≤ posF (fun a => !(decide (0 ≤ a) && decide (a < n))) 0 l) = !(winB l n) := by
      rw [Bool.eq_iff_iff, decide_eq_true_eq, hm]
      unfold winB
      simp [List.any_eq_true]
      constructor
      · rintro ⟨x, hx, h⟩
        exact ⟨x, hx, by omega⟩
      · rintro ⟨x, hx, h⟩
        exact ⟨x, hx, by omega⟩
    generalize posF (fun a => !(decide (0 ≤ a) && decide (a < n))) 0 l = Q at *
    generalize winB l n = W at *
    refine Call.enter' (N := 9) (rs := [.tmp 4]) Tryz.func113 rfl rfl rfl (by decide) rfl ?_; simp only [argT]; have hD : (0 : Nat) = 0 := rfl
    repeat' first | (refine SW.seq_k fun K hK => ?_) | ((first | refine SW.region ?_ | refine SW.ret ?_ | refine Call.of_pure (ix) ?_); try simp only [go_sem, hD, e]) | (apply hK; clear hK K)
    refine ret_pure ?_; simp only [resL_tmp, resL_nil, tupOf, go_sem, hD]
  generalize winB l n = W at *
  refine Call.enter' (N := 9) (rs := [.tmp 4]) Tryz.func93 rfl rfl rfl (by decide) rfl ?_; simp only [argT]; have hD : (0 : Nat) = 0 := rfl
  repeat' first | ((refine Ab.SW.le (St.le_freezeP (i := 3) (n := 1) rfl (by rw [find_cons, if_pos rfl]) (by exact Nat.le_refl 1)) ?_); (rw [del_head]); (simp only [getN, Blk.get])) | (refine SW.seq_k fun K hK => ?_) | ((first | refine SW.region ?_ | refine SW.ret ?_ | refine Call.of_pure (cf) ?_ | (refine allF_i fun b hb => ?_; replace hD := And.intro hb hD; clear hb; try simp only [fresh_cons, fresh_nil, and_true, ne_eq, neF] at hD)); try simp only [go_sem, hD]) | (apply hK; clear hK K)
  refine ret_pure ?_; simp only [resL_tmp, resL_nil, tupOf, go_sem, hD]
  rw [Bool.not_not]
theorem indices_r (l : List Int) (n : Int) (hl : l.length ≤ 9223372036854775807) : PCall Tryz.prog 85 [IL l, I64 n] (SB (winB l n)) := by
  obtain ⟨X, hX⟩ : ∃ X, X = winB l n := ⟨_, rfl⟩
  rw [← hX]
  have h1 : (∀ j, j < l.length → 0 ≤ l.getD j 0 ∧ l.getD j 0 < n) → X = true := fun h => by
    rw [hX, winB_iff]
    intro a ha
    obtain ⟨j, hj, rfl⟩ := List.getElem_of_mem ha
    have := h j hj
    rwa [show l.getD j 0 = l[j] by simp [List.getD_eq_getElem?_getD, hj]] at this
  have h2 : ∀ j, j < l.length → ¬ (0 ≤ l.getD j 0 ∧ l.getD j 0 < n) → X = false := fun j hj h => by
    rw [hX, Bool.eq_false_iff]
    exact fun hw => h (winB_iff.1 hw _ (getD_mem' 0 hj))
  clear hX
  refine Call.enter' (N := 25) (rs := [.tmp 4]) Tryz.func85 rfl rfl rfl (by decide) rfl ?_; simp only [argT]; have hD : (0 : Nat) = 0 := rfl
  repeat' first | (refine SW.seq_k fun K hK => ?_) | (refine SW.block ?_) | (refine SW.region ?_; try simp only [go_sem, hD]) | (apply hK; clear hK K)
  obtain ⟨I, hI⟩ : ∃ I : Nat → St → Prop, ∀ k S, I k S ↔ (∃ (i : Nat) , k = l.length - i ∧ i ≤ l.length ∧ (∀ j, j < i → 0 ≤ l.getD j 0 ∧ l.getD j 0 < n) ∧ S = ⟨[(0, IL l), (1, I64 n), (5, I64 i)], []⟩) := ⟨fun k S => _, fun _ _ => Iff.rfl⟩
  refine SW.loop' I (l.length) ((hI _ _).2 ⟨0, rfl, Nat.zero_le _, (fun j hj => absurd hj (by omega)), rfl⟩) (by repeat' (first | exact rfl | exact trivial | constructor)) ?_
  intro k S hIn
  obtain ⟨i, rfl, hi, hL, rfl⟩ := (hI _ _).1 hIn
  clear hIn
  have ie : ((i : Nat) : Int).toNat = i := Int.toNat_natCast _
  have i0 : (0 : Int) ≤ ((i : Nat) : Int) := by omega
  by_cases hlt : i < l.length
  · have hli : ((i : Nat) : Int) < (((l.length) : Nat) : Int) := by omega
    have w1 : IntKind.i64.wrap ((i : Int) + 1) = ((i + 1 : Nat) : Int) := by rw [i64_wrap (by omega) (by omega)]; omega
    have fi : iF l i = [I64 (l.getD i 0)] := rfl
    have hn1 : (0 ≤ l.getD i 0 ∧ l.getD i 0 < n) → ∀ j, j < i + 1 → 0 ≤ l.getD j 0 ∧ l.getD j 0 < n := fun h j hj => by
      rcases Nat.lt_or_ge j i with h3 | h3
      · exact hL j h3
      · obtain rfl : j = i := by omega
        exact h
    have h2i := h2 i hlt
    generalize l.getD i 0 = t at *
    by_cases a1 : t < 0
    · have hx := h2i (by omega)
      subst hx
      repeat' first | (refine SW.seq_k fun K hK => ?_) | (refine SW.block ?_) | ((first | refine SW.region ?_ | refine SW.cond ?_ | refine SW.skip ?_ | refine SW.ret ?_); try simp only [go_sem, hD, hli, ie, i0, w1, fi, a1]) | (apply hK; clear hK K)
      refine ret_pure ?_; simp only [resL_tmp, resL_nil, tupOf, go_sem, hD]
    · by_cases a2 : n ≤ t
      · have hx := h2i (by omega)
        subst hx
        repeat' first | (refine SW.seq_k fun K hK => ?_) | (refine SW.block ?_) | ((first | refine SW.region ?_ | refine SW.cond ?_ | refine SW.skip ?_ | refine SW.ret ?_); try simp only [go_sem, hD, hli, ie, i0, w1, fi, a1, a2]) | (apply hK; clear hK K)
        refine ret_pure ?_; simp only [resL_tmp, resL_nil, tupOf, go_sem, hD]
      · have hn2 := hn1 ⟨by omega, by omega⟩
        repeat' first | (refine SW.seq_k fun K hK => ?_) | (refine SW.block ?_) | ((first | refine SW.region ?_ | refine SW.cond ?_ | refine SW.skip ?_); try simp only [go_sem, hD, hli, ie, i0, w1, fi, a1, a2]) | (apply hK; clear hK K)
        refine Rnd.sub (l.length - (i + 1)) (by omega) ((hI _ _).2 ⟨i + 1, rfl, by omega, hn2, rfl⟩) (by repeat' (first | exact rfl | exact trivial | constructor))
  · have hli : ¬ ((i : Nat) : Int) < (((l.length) : Nat) : Int) := by omega
    have hx := h1 fun j hj => hL j (by omega)
    subst hx
    repeat' first | (refine SW.seq_k fun K hK => ?_) | ((first | refine SW.region ?_ | refine SW.cond ?_ | refine SW.exit ?_ | refine SW.ret ?_); try simp only [go_sem, hD, hli]) | (apply hK; clear hK K) | (clear hK K; apply hK; clear hK K)
    refine ret_pure ?_; simp only [resL_tmp, resL_nil, tupOf, go_sem, hD]
theorem repeated_p (l : List Int) (hl : l.length ≤ 9223372036854775807) : PCall Tryz.prog 94 [IL l] (SB (!decide l.Nodup)) := by
  obtain ⟨X, hX⟩ : ∃ X, X = !decide l.Nodup := ⟨_, rfl⟩
  rw [← hX]
  have h1 : (∀ j, j < l.length → atI (l.getD j 0) 0 (l.take j) < 0) → X = false := fun h => by
    rw [hX, decide_eq_true (nodup_take.2 fun i hi => atI_none.1 (h i hi))]
    rfl
  have h2 : ∀ j, j < l.length → ¬ atI (l.getD j 0) 0 (l.take j) < 0 → X = true := fun j hj h => by
    rw [hX, decide_eq_false fun hn => h (atI_none.2 (nodup_take.1 hn j hj))]
    rfl
  clear hX
  refine Call.enter' (N := 18) (rs := [.tmp 2]) Tryz.func94 rfl rfl rfl (by decide) rfl ?_; simp only [argT]; have hD : (0 : Nat) = 0 := rfl
  repeat' first | (refine SW.seq_k fun K hK => ?_) | (refine SW.block ?_) | (refine SW.region ?_; try simp only [go_sem, hD]) | (apply hK; clear hK K)
  obtain ⟨I, hI⟩ : ∃ I : Nat → St → Prop, ∀ k S, I k S ↔ (∃ (i : Nat) , k = l.length - i ∧ i ≤ l.length ∧ (∀ j, j < i → atI (l.getD j 0) 0 (l.take j) < 0) ∧ S = ⟨[(0, IL l), (5, IL l), (6, I64 l.length), (7, I64 i)], []⟩) := ⟨fun k S => _, fun _ _ => Iff.rfl⟩
  refine SW.loop' I (l.length) ((hI _ _).2 ⟨0, rfl, Nat.zero_le _, (fun j hj => absurd hj (by omega)), rfl⟩) (by repeat' (first | exact rfl | exact trivial | constructor)) ?_
  intro k S hIn
  obtain ⟨i, rfl, hi, hL, rfl⟩ := (hI _ _).1 hIn
  clear hIn
  have ie : ((i : Nat) : Int).toNat = i := Int.toNat_natCast _
  have i0 : (0 : Int) ≤ ((i : Nat) : Int) := by omega
  by_cases hlt : i < l.length
  · have hli : ((i : Nat) : Int) < (((l.length) : Nat) : Int) := by omega
    have w1 : IntKind.i64.wrap ((i : Int) + 1) = ((i + 1 : Nat) : Int) := by rw [i64_wrap (by omega) (by omega)]; omega
    have fi : iF l i = [I64 (l.getD i 0)] := rfl
    have hn1 : (atI (l.getD i 0) 0 (l.take i) < 0) → ∀ j, j < i + 1 → atI (l.getD j 0) 0 (l.take j) < 0 := fun h j hj => by
      rcases Nat.lt_or_ge j i with h3 | h3
      · exact hL j h3
      · obtain rfl : j = i := by omega
        exact h
    have h2i := h2 i hlt
    have iz : (((i : Nat) : Int) - 0).toNat = i := by omega
    have il : ((i : Nat) : Int) ≤ ((l.length : Nat) : Int) := by omega
    have c := contains_i (l.getD i 0) (l.take i) i (by omega) (by rw [List.length_take]; omega) (iF l) (fun j hj => iF_take hj)
    generalize l.getD i 0 = t at *
    generalize atI t 0 (l.take i) = q at *
    by_cases a1 : q < 0
    · rw [decide_eq_false (show ¬ 0 ≤ q by omega)] at c
      have hn2 := hn1 a1
      repeat' first | (refine SW.seq_k fun K hK => ?_) | (refine SW.block ?_) | ((first | refine SW.region ?_ | refine SW.cond ?_ | refine SW.skip ?_ | refine Call.of_pure (c) ?_); try simp only [go_sem, hD, hli, ie, i0, w1, fi, iz, il]) | (apply hK; clear hK K)
      refine Rnd.sub (l.length - (i + 1)) (by omega) ((hI _ _).2 ⟨i + 1, rfl, by omega, hn2, rfl⟩) (by repeat' (first | exact rfl | exact trivial | constructor))
    · rw [decide_eq_true (show 0 ≤ q by omega)] at c
      have hx := h2i a1
      subst hx
      repeat' first | (refine SW.seq_k fun K hK => ?_) | (refine SW.block ?_) | ((first | refine SW.region ?_ | refine SW.cond ?_ | refine SW.skip ?_ | refine SW.ret ?_ | refine Call.of_pure (c) ?_); try simp only [go_sem, hD, hli, ie, i0, w1, fi, iz, il]) | (apply hK; clear hK K)
      refine ret_pure ?_; simp only [resL_tmp, resL_nil, tupOf, go_sem, hD]
  · have hli : ¬ ((i : Nat) : Int) < (((l.length) : Nat) : Int) := by omega
    have hx := h1 fun j hj => hL j (by omega)
    subst hx
    repeat' first | (refine SW.seq_k fun K hK => ?_) | ((first | refine SW.region ?_ | refine SW.cond ?_ | refine SW.exit ?_ | refine SW.ret ?_); try simp only [go_sem, hD, hli]) | (apply hK; clear hK K) | (clear hK K; apply hK; clear hK K)
    refine ret_pure ?_; simp only [resL_tmp, resL_nil, tupOf, go_sem, hD]
theorem once_r (l : List Int) (hl : l.length ≤ 9223372036854775807) : PCall Tryz.prog 86 [IL l] (SB (decide l.Nodup)) := by
  obtain ⟨X, hX⟩ : ∃ X, X = decide l.Nodup := ⟨_, rfl⟩
  rw [← hX]
  have h1 : (∀ j, j < l.length → atI (l.getD j 0) 0 l = (j : Int)) → X = true := fun h => by
    rw [hX, decide_eq_true (nodup_at.2 h)]
  have h2 : ∀ j, j < l.length → ¬ atI (l.getD j 0) 0 l = (j : Int) → X = false := fun j hj h => by
    rw [hX, decide_eq_false fun hn => h (nodup_at.1 hn j hj)]
  clear hX
  refine Call.enter' (N := 18) (rs := [.tmp 2]) Tryz.func86 rfl rfl rfl (by decide) rfl ?_; simp only [argT]; have hD : (0 : Nat) = 0 := rfl
  repeat' first | (refine SW.seq_k fun K hK => ?_) | (refine SW.block ?_) | (refine SW.region ?_; try simp only [go_sem, hD]) | (apply hK; clear hK K)
  obtain ⟨I, hI⟩ : ∃ I : Nat → St → Prop, ∀ k S, I k S ↔ (∃ (i : Nat) , k = l.length - i ∧ i ≤ l.length ∧ (∀ j, j < i → atI (l.getD j 0) 0 l = (j : Int)) ∧ S = ⟨[(0, IL l), (3, I64 i)], []⟩) := ⟨fun k S => _, fun _ _ => Iff.rfl⟩
  refine SW.loop' I (l.length) ((hI _ _).2 ⟨0, rfl, Nat.zero_le _, (fun j hj => absurd hj (by omega)), rfl⟩) (by repeat' (first | exact rfl | exact trivial | constructor)) ?_
  intro k S hIn
  obtain ⟨i, rfl, hi, hL, rfl⟩ := (hI _ _).1 hIn
  clear hIn
  have ie : ((i : Nat) : Int).toNat = i := Int.toNat_natCast _
  have i0 : (0 : Int) ≤ ((i : Nat) : Int) := by omega
  by_cases hlt : i < l.length
  · have hli : ((i : Nat) : Int) < (((l.length) : Nat) : Int) := by omega
    have w1 : IntKind.i64.wrap ((i : Int) + 1) = ((i + 1 : Nat) : Int) := by rw [i64_wrap (by omega) (by omega)]; omega
    have fi : iF l i = [I64 (l.getD i 0)] := rfl
    have hn1 : atI (l.getD i 0) 0 l = (i : Int) → ∀ j, j < i + 1 → atI (l.getD j 0) 0 l = (j : Int) := fun h j hj => by
      rcases Nat.lt_or_ge j i with h3 | h3
      · exact hL j h3
      · obtain rfl : j = i := by omega
        exact h
    have h2i := h2 i hlt
    have c := at_r (l.getD i 0) l l.length hl rfl (iF l) (fun j hj => rfl)
    generalize l.getD i 0 = t at *
    generalize atI t 0 l = q at *
    by_cases a1 : q = (i : Int)
    · have hn2 := hn1 a1
      repeat' first | (refine SW.seq_k fun K hK => ?_) | (refine SW.block ?_) | ((first | refine SW.region ?_ | refine SW.cond ?_ | refine SW.skip ?_ | refine Call.of_pure (c) ?_); try simp only [go_sem, hD, hli, ie, i0, w1, fi, a1]) | (apply hK; clear hK K)
      refine Rnd.sub (l.length - (i + 1)) (by omega) ((hI _ _).2 ⟨i + 1, rfl, by omega, hn2, rfl⟩) (by repeat' (first | exact rfl | exact trivial | constructor))
    · have hx := h2i a1
      subst hx
      repeat' first | (refine SW.seq_k fun K hK => ?_) | (refine SW.block ?_) | ((first | refine SW.region ?_ | refine SW.cond ?_ | refine SW.skip ?_ | refine SW.ret ?_ | refine Call.of_pure (c) ?_); try simp only [go_sem, hD, hli, ie, i0, w1, fi, a1]) | (apply hK; clear hK K)
      refine ret_pure ?_; simp only [resL_tmp, resL_nil, tupOf, go_sem, hD]
  · have hli : ¬ ((i : Nat) : Int) < (((l.length) : Nat) : Int) := by omega
    have hx := h1 fun j hj => hL j (by omega)
    subst hx
    repeat' first | (refine SW.seq_k fun K hK => ?_) | ((first | refine SW.region ?_ | refine SW.cond ?_ | refine SW.exit ?_ | refine SW.ret ?_); try simp only [go_sem, hD, hli]) | (apply hK; clear hK K) | (clear hK K; apply hK; clear hK K)
    refine ret_pure ?_; simp only [resL_tmp, resL_nil, tupOf, go_sem, hD]
end Go.Proofs.YtblfodnajpamfaaGreatDoor
namespace Go.Ab.A15
open Go Go.Ab Go.Ab.A34
def chkF (db : List Tb) : Nat → Nat → Int
  | 0, _ => 0
  | g + 1, i => if ¬ validS (db.getD i t0) = 0 then validS (db.getD i t0) else if 0 ≤ tabI (db.getD i t0).name 0 (db.take i) then 5 else chkF db g (i + 1)
def chkS (db : List Tb) : Int := if 50 < db.length then 3 else chkF db db.length 0
def dpF (l : List Dp) (i : Nat) : List SV := dC (l.getD i d0)
abbrev DpL (l : List Dp) : SV := .fl l.length 4 (dpF l)
def firstE (db : List Tb) (g : Dp) : List Dp → Int
  | [] => fitsS db g
  | d :: l => if ¬ fitsS db d = 0 then fitsS db d else firstE db g l
def allS (db : List Tb) (l : List Dp) (g : Dp) : Int := if ¬ chkS db = 0 then chkS db else firstE db g l
theorem firstE_step {db : List Tb} {g : Dp} {l : List Dp} {i : Nat} (h : i < l.length) : firstE db g (l.drop i) = if ¬ fitsS db (l.getD i d0) = 0 then fitsS db (l.getD i d0) else firstE db g (l.drop (i + 1)) := by
  have g' : l.getD i d0 = l[i] := by simp [List.getD_eq_getElem?_getD, h]
  rw [List.drop_eq_getElem_cons h, g']
  rfl
structure OkD (d : Dp) : Prop where
  l : d.l.length ≤ 9223372036854775807
  r : d.r.length ≤ 9223372036854775807
end Go.Ab.A15
def Go.Ab.zC2_1 : Go.Ab.OZ := (.one 0 [0, 1, 4, 9, 10, 11] (.one 1 [1, 4, 9, 10, 11] (.one 2 [2, 3, 4, 9, 10, 11] (.one 3 [3, 4, 9, 10, 11] (.one 4 [4, 9, 10, 11] (.one 5 [5, 6, 9, 10, 11] (.one 6 [6, 9, 10, 11] (.one 7 [7, 8, 9, 10, 11] (.one 8 [8, 9, 10, 11] (.one 9 [9, 10, 11] (.one 10 [10, 11] (.one 11 [11] .done))))))))))))
def Go.Ab.zC2_2 : Go.Ab.OZ := (.one 0 [0, 1, 2, 6, 7, 8, 9, 10, 11, 12, 13, 14, 15, 16, 17, 18, 19, 20, 21, 22, 23, 24, 25, 26, 27, 28, 29, 30, 31, 32] (.one 1 [1, 2, 6, 7, 8, 9, 10, 11, 12, 13, 14, 15, 16, 17, 18, 19, 20, 21, 22, 23, 24, 25, 26, 27, 28, 29, 30, 31, 32] (.one 2 [2, 6, 7, 8, 9, 10, 11, 12, 13, 14, 15, 16, 17, 18, 19, 20, 21, 22, 23, 24, 25, 26, 27, 28, 29, 30, 31, 32] (.one 3 [3, 4, 5, 6, 7, 8, 9, 10, 11, 12, 13, 14, 15, 16, 17, 18, 19, 20, 21, 22, 23, 24, 25, 26, 27, 28, 29, 30, 31, 32] (.one 4 [4, 5, 6, 7, 8, 9, 10, 11, 12, 13, 14, 15, 16, 17, 18, 19, 20, 21, 22, 23, 24, 25, 26, 27, 28, 29, 30, 31, 32] (.one 5 [5, 6, 7, 8, 9, 10, 11, 12, 13, 14, 15, 16, 17, 18, 19, 20, 21, 22, 23, 24, 25, 26, 27, 28, 29, 30, 31, 32] (.one 6 [6, 7, 8, 9, 10, 11, 12, 13, 14, 15, 16, 17, 18, 19, 20, 21, 22, 23, 24, 25, 26, 27, 28, 29, 30, 31, 32] (.one 7 [7, 8, 9, 10, 11, 12, 13, 14, 15, 16, 17, 18, 19, 20, 21, 22, 23, 24, 25, 26, 27, 28, 29, 30, 31, 32] (.one 8 [8, 9, 17, 18, 19, 20, 21, 22, 23, 24, 25, 26, 27, 28, 29, 30, 31, 32] (.one 9 [9, 17, 18, 19, 20, 21, 22, 23, 24, 25, 26, 27, 28, 29, 30, 31, 32] (.one 10 [10, 11, 13, 14, 15, 16, 17, 18, 19, 20, 21, 22, 23, 24, 25, 26, 27, 28, 29, 30, 31, 32] (.one 11 [11, 13, 14, 15, 16, 17, 18, 19, 20, 21, 22, 23, 24, 25, 26, 27, 28, 29, 30, 31, 32] (.one 12 [12, 13, 14, 15, 16, 17, 18, 19, 20, 21, 22, 23, 24, 25, 26, 27, 28, 29, 30, 31, 32] (.one 13 [13, 14, 15, 16, 17, 18, 19, 20, 21, 22, 23, 24, 25, 26, 27, 28, 29, 30, 31, 32] (.one 14 [14, 15, 16, 17, 18, 19, 20, 21, 22, 23, 24, 25, 26, 27, 28, 29, 30, 31, 32] (.one 15 [15, 16, 17, 18, 19, 20, 21, 22, 23, 24, 25, 26, 27, 28, 29, 30, 31, 32] (.one 16 [16, 17, 18, 19, 20, 21, 22, 23, 24, 25, 26, 27, 28, 29, 30, 31, 32] (.one 17 [17, 18, 19, 20, 21, 22, 23, 24, 25, 26, 27, 28, 29, 30, 31, 32] (.one 18 [18, 19, 20, 21, 22, 23, 24, 25, 26, 27, 28, 29, 30, 31, 32] (.one 19 [19, 20, 21, 22, 23, 24, 25, 26, 27, 28, 29, 30, 31, 32] (.one 20 [20, 21, 22, 23, 24, 25, 26, 27, 28, 29, 30, 31, 32] (.one 21 [21, 22, 30, 31, 32] (.one 22 [22, 30, 31, 32] (.one 23 [23, 24, 26, 27, 28, 29, 30, 31, 32] (.one 24 [24, 26, 27, 28, 29, 30, 31, 32] (.one 25 [25, 26, 27, 28, 29, 30, 31, 32] (.one 26 [26, 27, 28, 29, 30, 31, 32] (.one 27 [27, 28, 29, 30, 31, 32] (.one 28 [28, 29, 30, 31, 32] (.one 29 [29, 30, 31, 32] (.one 30 [30, 31, 32] (.one 31 [31, 32] (.one 32 [32] .done)))))))))))))))))))))))))))))))))
namespace Go.Proofs.YtblfodnajpamfaaGreatDoor
open Go Go.Ab Go.Ab.A34 Go.Ab.A15
variable [Gl] [Tabs]
theorem fits_p (db : List Tb) (d : Dp) (hdb : db.length ≤ 9223372036854775807) (hd : OkD d) : PCall Tryz.prog 67 [DB db, DV d] (I64 (fitsS db d)) := by
  obtain ⟨df, dl, dt, dr⟩ := d
  obtain ⟨h1, h2⟩ := hd
  simp only at h1 h2
  obtain ⟨R, hR⟩ : ∃ R, R = fitsS db ⟨df, dl, dt, dr⟩ := ⟨_, rfl⟩
  rw [← hR]
  unfold fitsS at hR
  simp only at hR ⊢
  have cf := find_p df db db.length hdb rfl (tF db) (fun i hi => rfl)
  have ct := find_p dt db db.length hdb rfl (tF db) (fun i hi => rfl)
  rcases tabI_is (x := df) (l := db) (i := 0) with ⟨e1, _⟩ | ⟨jf, e1, f1, _⟩
  · rw [e1] at hR cf
    rw [if_pos (.inl (by omega))] at hR
    subst hR
    generalize tabI dt 0 db = q at *
    refine Call.enter' (N := 64) (rs := [.tmp 4]) Tryz.func67 rfl rfl rfl (by decide) rfl ?_; simp only [argT]; have hD : (0 : Nat) = 0 := rfl
    repeat' first | (refine SW.seq_k fun K hK => ?_) | ((first | refine SW.region ?_ | refine SW.regionZ (id := 1) (Checked.mixed Tryz.checked) Go.Ab.zC2_1 (by kernel_rfl) ?_ | refine SW.cond ?_ | refine SW.ret ?_ | refine ⟨_, cf, ?_⟩ | refine ⟨_, ct, ?_⟩ | (refine allF_i fun b hb => ?_; replace hD := And.intro hb hD; clear hb; try simp only [fresh_cons, fresh_nil, and_true, ne_eq, neF] at hD)); try simp only [Go.Ab.zC2_1, go_sem, hD, true_implies]) | (refine ifI (fun hc => ?_) (fun hc => ?_) <;> first | (exfalso; omega) | skip) | (apply hK; clear hK K)
    refine ret_pure ?_; simp only [resL_tmp, resL_nil, tupOf, go_sem, hD]
  rw [Nat.zero_add] at e1
  rw [e1] at hR cf
  have n1 : ¬ ((jf : Nat) : Int) < 0 := by omega
  have z1 : ((jf : Nat) : Int).toNat = jf := Int.toNat_natCast _
  have p1 : (0 : Int) ≤ ((jf : Nat) : Int) := by omega
  have l1 : ((jf : Nat) : Int) < ((db.length : Nat) : Int) := by omega
  have tf1 : tF db jf = tC (db.getD jf t0) := rfl
  rw [z1] at hR
  rcases tabI_is (x := dt) (l := db) (i := 0) with ⟨e2, _⟩ | ⟨jt, e2, f2, _⟩
  · rw [e2] at hR ct
    rw [if_pos (.inr (by omega))] at hR
    subst hR
    refine Call.enter' (N := 64) (rs := [.tmp 4]) Tryz.func67 rfl rfl rfl (by decide) rfl ?_; simp only [argT]; have hD : (0 : Nat) = 0 := rfl
    repeat' first | (refine SW.seq_k fun K hK => ?_) | ((first | refine SW.region ?_ | refine SW.regionZ (id := 1) (Checked.mixed Tryz.checked) Go.Ab.zC2_1 (by kernel_rfl) ?_ | refine SW.cond ?_ | refine SW.ret ?_ | refine ⟨_, cf, ?_⟩ | refine ⟨_, ct, ?_⟩ | (refine allF_i fun b hb => ?_; replace hD := And.intro hb hD; clear hb; try simp only [fresh_cons, fresh_nil, and_true, ne_eq, neF] at hD)); try simp only [Go.Ab.zC2_1, go_sem, hD, n1]) | (apply hK; clear hK K)
    refine ret_pure ?_; simp only [resL_tmp, resL_nil, tupOf, go_sem, hD]
  rw [Nat.zero_add] at e2
  rw [e2] at hR ct
  have n2 : ¬ ((jt : Nat) : Int) < 0 := by omega
  have z2 : ((jt : Nat) : Int).toNat = jt := Int.toNat_natCast _
  have p2 : (0 : Int) ≤ ((jt : Nat) : Int) := by omega
  have l2 : ((jt : Nat) : Int) < ((db.length : Nat) : Int) := by omega
  have tf2 : tF db jt = tC (db.getD jt t0) := rfl
  rw [z2, if_neg (by omega)] at hR
  generalize db.getD jf t0 = T1 at *
  generalize db.getD jt t0 = T2 at *
  obtain ⟨a1, b1, c1⟩ := T1
  obtain ⟨a2, b2, c2⟩ := T2
  simp only at hR tf1 tf2
  have wl := within_p dl b1.length h1
  have wr := within_p dr b2.length h2
  have rl := repeated_p dl h1
  have rr := repeated_p dr h2
  by_cases hlen : dl.length = dr.length
  · have hli : ((dl.length : Nat) : Int) = ((dr.length : Nat) : Int) := by omega
    cases w1 : winB dl b1.length with
    | false =>
      rw [w1] at wl hR
      rw [if_pos (.inr (.inl rfl))] at hR
      subst hR
      refine Call.enter' (N := 64) (rs := [.tmp 4]) Tryz.func67 rfl rfl rfl (by decide) rfl ?_; simp only [argT]; have hD : (0 : Nat) = 0 := rfl
      repeat' first | (refine SW.seq_k fun K hK => ?_) | ((first | refine SW.region ?_ | refine SW.regionZ (id := 1) (Checked.mixed Tryz.checked) Go.Ab.zC2_1 (by kernel_rfl) ?_ | refine SW.regionZ (id := 4) (Checked.mixed Tryz.checked) Go.Ab.zC2_2 (by kernel_rfl) ?_ | refine SW.cond ?_ | refine SW.skip ?_ | refine SW.ret ?_ | refine ⟨_, cf, ?_⟩ | refine ⟨_, ct, ?_⟩ | refine ⟨_, wl, ?_⟩ | (refine allF_i fun b hb => ?_; replace hD := And.intro hb hD; clear hb; try simp only [fresh_cons, fresh_nil, and_true, ne_eq, neF] at hD)); try simp only [Go.Ab.zC2_1, Go.Ab.zC2_2, go_sem, hD, n1, n2, z1, p1, l1, z2, p2, l2, tf1, tf2, hli]) | (apply hK; clear hK K)
      refine ret_pure ?_; simp only [resL_tmp, resL_nil, tupOf, go_sem, hD]
    | true =>
      rw [w1] at wl hR
      cases w2 : winB dr b2.length with
      | false =>
        rw [w2] at wr hR
        rw [if_pos (.inr (.inr rfl))] at hR
        subst hR
        refine Call.enter' (N := 64) (rs := [.tmp 4]) Tryz.func67 rfl rfl rfl (by decide) rfl ?_; simp only [argT]; have hD : (0 : Nat) = 0 := rfl
        repeat' first | (refine SW.seq_k fun K hK => ?_) | ((first | refine SW.region ?_ | refine SW.regionZ (id := 1) (Checked.mixed Tryz.checked) Go.Ab.zC2_1 (by kernel_rfl) ?_ | refine SW.regionZ (id := 4) (Checked.mixed Tryz.checked) Go.Ab.zC2_2 (by kernel_rfl) ?_ | refine SW.cond ?_ | refine SW.skip ?_ | refine SW.ret ?_ | refine ⟨_, cf, ?_⟩ | refine ⟨_, ct, ?_⟩ | refine ⟨_, wl, ?_⟩ | refine ⟨_, wr, ?_⟩ | (refine allF_i fun b hb => ?_; replace hD := And.intro hb hD; clear hb; try simp only [fresh_cons, fresh_nil, and_true, ne_eq, neF] at hD)); try simp only [Go.Ab.zC2_1, Go.Ab.zC2_2, go_sem, hD, n1, n2, z1, p1, l1, z2, p2, l2, tf1, tf2, hli]) | (apply hK; clear hK K)
        refine ret_pure ?_; simp only [resL_tmp, resL_nil, tupOf, go_sem, hD]
      | true =>
        rw [w2] at wr hR
        rw [if_neg (by simp [hlen])] at hR
        by_cases q1 : dl.Nodup
        · rw [decide_eq_true q1] at rl
          by_cases q2 : dr.Nodup
          · rw [decide_eq_true q2] at rr
            rw [if_pos ⟨q1, q2⟩] at hR
            subst hR
            refine Call.enter' (N := 64) (rs := [.tmp 4]) Tryz.func67 rfl rfl rfl (by decide) rfl ?_; simp only [argT]; have hD : (0 : Nat) = 0 := rfl
            repeat' first | (refine SW.seq_k fun K hK => ?_) | ((first | refine SW.region ?_ | refine SW.regionZ (id := 1) (Checked.mixed Tryz.checked) Go.Ab.zC2_1 (by kernel_rfl) ?_ | refine SW.regionZ (id := 4) (Checked.mixed Tryz.checked) Go.Ab.zC2_2 (by kernel_rfl) ?_ | refine SW.cond ?_ | refine SW.skip ?_ | refine SW.ret ?_ | refine ⟨_, cf, ?_⟩ | refine ⟨_, ct, ?_⟩ | refine ⟨_, wl, ?_⟩ | refine ⟨_, wr, ?_⟩ | refine Call.of_pure (rl) ?_ | refine Call.of_pure (rr) ?_ | (refine allF_i fun b hb => ?_; replace hD := And.intro hb hD; clear hb; try simp only [fresh_cons, fresh_nil, and_true, ne_eq, neF] at hD)); try simp only [Go.Ab.zC2_1, Go.Ab.zC2_2, go_sem, hD, n1, n2, z1, p1, l1, z2, p2, l2, tf1, tf2, hli]) | (apply hK; clear hK K)
            refine ret_pure ?_; simp only [resL_tmp, resL_nil, tupOf, go_sem, hD]
          · rw [decide_eq_false q2] at rr
            rw [if_neg (fun x => q2 x.2)] at hR
            subst hR
            refine Call.enter' (N := 64) (rs := [.tmp 4]) Tryz.func67 rfl rfl rfl (by decide) rfl ?_; simp only [argT]; have hD : (0 : Nat) = 0 := rfl
            repeat' first | (refine SW.seq_k fun K hK => ?_) | ((first | refine SW.region ?_ | refine SW.regionZ (id := 1) (Checked.mixed Tryz.checked) Go.Ab.zC2_1 (by kernel_rfl) ?_ | refine SW.regionZ (id := 4) (Checked.mixed Tryz.checked) Go.Ab.zC2_2 (by kernel_rfl) ?_ | refine SW.cond ?_ | refine SW.skip ?_ | refine SW.ret ?_ | refine ⟨_, cf, ?_⟩ | refine ⟨_, ct, ?_⟩ | refine ⟨_, wl, ?_⟩ | refine ⟨_, wr, ?_⟩ | refine Call.of_pure (rl) ?_ | refine Call.of_pure (rr) ?_ | (refine allF_i fun b hb => ?_; replace hD := And.intro hb hD; clear hb; try simp only [fresh_cons, fresh_nil, and_true, ne_eq, neF] at hD)); try simp only [Go.Ab.zC2_1, Go.Ab.zC2_2, go_sem, hD, n1, n2, z1, p1, l1, z2, p2, l2, tf1, tf2, hli]) | (apply hK; clear hK K)
            refine ret_pure ?_; simp only [resL_tmp, resL_nil, tupOf, go_sem, hD]
        · rw [decide_eq_false q1] at rl
          rw [if_neg (fun x => q1 x.1)] at hR
          generalize (!decide dr.Nodup) = qq at *
          subst hR
          refine Call.enter' (N := 64) (rs := [.tmp 4]) Tryz.func67 rfl rfl rfl (by decide) rfl ?_; simp only [argT]; have hD : (0 : Nat) = 0 := rfl
          repeat' first | (refine SW.seq_k fun K hK => ?_) | ((first | refine SW.region ?_ | refine SW.regionZ (id := 1) (Checked.mixed Tryz.checked) Go.Ab.zC2_1 (by kernel_rfl) ?_ | refine SW.regionZ (id := 4) (Checked.mixed Tryz.checked) Go.Ab.zC2_2 (by kernel_rfl) ?_ | refine SW.cond ?_ | refine SW.skip ?_ | refine SW.ret ?_ | refine ⟨_, cf, ?_⟩ | refine ⟨_, ct, ?_⟩ | refine ⟨_, wl, ?_⟩ | refine ⟨_, wr, ?_⟩ | refine Call.of_pure (rl) ?_ | (refine allF_i fun b hb => ?_; replace hD := And.intro hb hD; clear hb; try simp only [fresh_cons, fresh_nil, and_true, ne_eq, neF] at hD)); try simp only [Go.Ab.zC2_1, Go.Ab.zC2_2, go_sem, hD, n1, n2, z1, p1, l1, z2, p2, l2, tf1, tf2, hli]) | (apply hK; clear hK K)
          refine ret_pure ?_; simp only [resL_tmp, resL_nil, tupOf, go_sem, hD]
  · have hli : ¬ ((dl.length : Nat) : Int) = ((dr.length : Nat) : Int) := by omega
    rw [if_pos (.inl hlen)] at hR
    generalize winB dl b1.length = w1 at *
    generalize winB dr b2.length = w2 at *
    subst hR
    refine Call.enter' (N := 64) (rs := [.tmp 4]) Tryz.func67 rfl rfl rfl (by decide) rfl ?_; simp only [argT]; have hD : (0 : Nat) = 0 := rfl
    repeat' first | (refine SW.seq_k fun K hK => ?_) | ((first | refine SW.region ?_ | refine SW.regionZ (id := 1) (Checked.mixed Tryz.checked) Go.Ab.zC2_1 (by kernel_rfl) ?_ | refine SW.regionZ (id := 4) (Checked.mixed Tryz.checked) Go.Ab.zC2_2 (by kernel_rfl) ?_ | refine SW.cond ?_ | refine SW.skip ?_ | refine SW.ret ?_ | refine ⟨_, cf, ?_⟩ | refine ⟨_, ct, ?_⟩ | (refine allF_i fun b hb => ?_; replace hD := And.intro hb hD; clear hb; try simp only [fresh_cons, fresh_nil, and_true, ne_eq, neF] at hD)); try simp only [Go.Ab.zC2_1, Go.Ab.zC2_2, go_sem, hD, n1, n2, z1, p1, l1, z2, p2, l2, tf1, tf2, hli]) | (apply hK; clear hK K)
    refine ret_pure ?_; simp only [resL_tmp, resL_nil, tupOf, go_sem, hD]
theorem fits_r (db : List Tb) (d : Dp) (hdb : db.length ≤ 9223372036854775807) (hd : OkD d) : PCall Tryz.prog 59 [DB db, DV d] (I64 (fitsS db d)) := by
  obtain ⟨df, dl, dt, dr⟩ := d
  obtain ⟨h1, h2⟩ := hd
  simp only at h1 h2
  obtain ⟨R, hR⟩ : ∃ R, R = fitsS db ⟨df, dl, dt, dr⟩ := ⟨_, rfl⟩
  rw [← hR]
  unfold fitsS at hR
  simp only at hR ⊢
  have cf := table_r df db db.length hdb rfl (tF db) (fun i hi => rfl)
  have ct := table_r dt db db.length hdb rfl (tF db) (fun i hi => rfl)
  rcases tabI_is (x := df) (l := db) (i := 0) with ⟨e1, _⟩ | ⟨jf, e1, f1, _⟩
  · rw [e1] at hR cf
    rw [if_pos (.inl (by omega))] at hR
    subst hR
    generalize tabI dt 0 db = q at *
    refine Call.enter' (N := 66) (rs := [.tmp 4]) Tryz.func59 rfl rfl rfl (by decide) rfl ?_; simp only [argT]; have hD : (0 : Nat) = 0 := rfl
    repeat' first | (refine SW.seq_k fun K hK => ?_) | ((first | refine SW.region ?_ | refine SW.regionZ (id := 1) (Checked.mixed Tryz.checked) Go.Ab.zC2_1 (by kernel_rfl) ?_ | refine SW.cond ?_ | refine SW.ret ?_ | refine ⟨_, cf, ?_⟩ | refine ⟨_, ct, ?_⟩ | (refine allF_i fun b hb => ?_; replace hD := And.intro hb hD; clear hb; try simp only [fresh_cons, fresh_nil, and_true, ne_eq, neF] at hD)); try simp only [Go.Ab.zC2_1, go_sem, hD, true_implies]) | (refine ifI (fun hc => ?_) (fun hc => ?_) <;> first | (exfalso; omega) | skip) | (apply hK; clear hK K)
    refine ret_pure ?_; simp only [resL_tmp, resL_nil, tupOf, go_sem, hD]
  rw [Nat.zero_add] at e1
  rw [e1] at hR cf
  have n1 : ¬ ((jf : Nat) : Int) < 0 := by omega
  have z1 : ((jf : Nat) : Int).toNat = jf := Int.toNat_natCast _
  have p1 : (0 : Int) ≤ ((jf : Nat) : Int) := by omega
  have l1 : ((jf : Nat) : Int) < ((db.length : Nat) : Int) := by omega
  have tf1 : tF db jf = tC (db.getD jf t0) := rfl
  rw [z1] at hR
  rcases tabI_is (x := dt) (l := db) (i := 0) with ⟨e2, _⟩ | ⟨jt, e2, f2, _⟩
  · rw [e2] at hR ct
    rw [if_pos (.inr (by omega))] at hR
    subst hR
    refine Call.enter' (N := 66) (rs := [.tmp 4]) Tryz.func59 rfl rfl rfl (by decide) rfl ?_; simp only [argT]; have hD : (0 : Nat) = 0 := rfl
    repeat' first | (refine SW.seq_k fun K hK => ?_) | ((first | refine SW.region ?_ | refine SW.regionZ (id := 1) (Checked.mixed Tryz.checked) Go.Ab.zC2_1 (by kernel_rfl) ?_ | refine SW.cond ?_ | refine SW.ret ?_ | refine ⟨_, cf, ?_⟩ | refine ⟨_, ct, ?_⟩ | (refine allF_i fun b hb => ?_; replace hD := And.intro hb hD; clear hb; try simp only [fresh_cons, fresh_nil, and_true, ne_eq, neF] at hD)); try simp only [Go.Ab.zC2_1, go_sem, hD, n1]) | (apply hK; clear hK K)
    refine ret_pure ?_; simp only [resL_tmp, resL_nil, tupOf, go_sem, hD]
  rw [Nat.zero_add] at e2
  rw [e2] at hR ct
  have n2 : ¬ ((jt : Nat) : Int) < 0 := by omega
  have z2 : ((jt : Nat) : Int).toNat = jt := Int.toNat_natCast _
  have p2 : (0 : Int) ≤ ((jt : Nat) : Int) := by omega
  have l2 : ((jt : Nat) : Int) < ((db.length : Nat) : Int) := by omega
  have tf2 : tF db jt = tC (db.getD jt t0) := rfl
  rw [z2, if_neg (by omega)] at hR
  generalize db.getD jf t0 = T1 at *
  generalize db.getD jt t0 = T2 at *
  obtain ⟨a1, b1, c1⟩ := T1
  obtain ⟨a2, b2, c2⟩ := T2
  simp only at hR tf1 tf2
  have wl := indices_r dl b1.length h1
  have wr := indices_r dr b2.length h2
  have rl := once_r dl h1
  have rr := once_r dr h2
  by_cases hlen : dl.length = dr.length
  · have hli : ((dl.length : Nat) : Int) = ((dr.length : Nat) : Int) := by omega
    cases w1 : winB dl b1.length with
    | false =>
      rw [w1] at wl hR
      rw [if_pos (.inr (.inl rfl))] at hR
      subst hR
      refine Call.enter' (N := 66) (rs := [.tmp 4]) Tryz.func59 rfl rfl rfl (by decide) rfl ?_; simp only [argT]; have hD : (0 : Nat) = 0 := rfl
      repeat' first | (refine SW.seq_k fun K hK => ?_) | ((first | refine SW.region ?_ | refine SW.regionZ (id := 1) (Checked.mixed Tryz.checked) Go.Ab.zC2_1 (by kernel_rfl) ?_ | refine SW.regionZ (id := 4) (Checked.mixed Tryz.checked) Go.Ab.zC2_2 (by kernel_rfl) ?_ | refine SW.cond ?_ | refine SW.skip ?_ | refine SW.ret ?_ | refine ⟨_, cf, ?_⟩ | refine ⟨_, ct, ?_⟩ | refine ⟨_, wl, ?_⟩ | (refine allF_i fun b hb => ?_; replace hD := And.intro hb hD; clear hb; try simp only [fresh_cons, fresh_nil, and_true, ne_eq, neF] at hD)); try simp only [Go.Ab.zC2_1, Go.Ab.zC2_2, go_sem, hD, n1, n2, z1, p1, l1, z2, p2, l2, tf1, tf2, hli]) | (apply hK; clear hK K)
      refine ret_pure ?_; simp only [resL_tmp, resL_nil, tupOf, go_sem, hD]
    | true =>
      rw [w1] at wl hR
      cases w2 : winB dr b2.length with
      | false =>
        rw [w2] at wr hR
        rw [if_pos (.inr (.inr rfl))] at hR
        subst hR
        refine Call.enter' (N := 66) (rs := [.tmp 4]) Tryz.func59 rfl rfl rfl (by decide) rfl ?_; simp only [argT]; have hD : (0 : Nat) = 0 := rfl
        repeat' first | (refine SW.seq_k fun K hK => ?_) | ((first | refine SW.region ?_ | refine SW.regionZ (id := 1) (Checked.mixed Tryz.checked) Go.Ab.zC2_1 (by kernel_rfl) ?_ | refine SW.regionZ (id := 4) (Checked.mixed Tryz.checked) Go.Ab.zC2_2 (by kernel_rfl) ?_ | refine SW.cond ?_ | refine SW.skip ?_ | refine SW.ret ?_ | refine ⟨_, cf, ?_⟩ | refine ⟨_, ct, ?_⟩ | refine ⟨_, wl, ?_⟩ | refine ⟨_, wr, ?_⟩ | (refine allF_i fun b hb => ?_; replace hD := And.intro hb hD; clear hb; try simp only [fresh_cons, fresh_nil, and_true, ne_eq, neF] at hD)); try simp only [Go.Ab.zC2_1, Go.Ab.zC2_2, go_sem, hD, n1, n2, z1, p1, l1, z2, p2, l2, tf1, tf2, hli]) | (apply hK; clear hK K)
        refine ret_pure ?_; simp only [resL_tmp, resL_nil, tupOf, go_sem, hD]
      | true =>
        rw [w2] at wr hR
        rw [if_neg (by simp [hlen])] at hR
        by_cases q1 : dl.Nodup
        · rw [decide_eq_true q1] at rl
          by_cases q2 : dr.Nodup
          · rw [decide_eq_true q2] at rr
            rw [if_pos ⟨q1, q2⟩] at hR
            subst hR
            refine Call.enter' (N := 66) (rs := [.tmp 4]) Tryz.func59 rfl rfl rfl (by decide) rfl ?_; simp only [argT]; have hD : (0 : Nat) = 0 := rfl
            repeat' first | (refine SW.seq_k fun K hK => ?_) | ((first | refine SW.region ?_ | refine SW.regionZ (id := 1) (Checked.mixed Tryz.checked) Go.Ab.zC2_1 (by kernel_rfl) ?_ | refine SW.regionZ (id := 4) (Checked.mixed Tryz.checked) Go.Ab.zC2_2 (by kernel_rfl) ?_ | refine SW.cond ?_ | refine SW.skip ?_ | refine SW.ret ?_ | refine ⟨_, cf, ?_⟩ | refine ⟨_, ct, ?_⟩ | refine ⟨_, wl, ?_⟩ | refine ⟨_, wr, ?_⟩ | refine Call.of_pure (rl) ?_ | refine Call.of_pure (rr) ?_ | (refine allF_i fun b hb => ?_; replace hD := And.intro hb hD; clear hb; try simp only [fresh_cons, fresh_nil, and_true, ne_eq, neF] at hD)); try simp only [Go.Ab.zC2_1, Go.Ab.zC2_2, go_sem, hD, n1, n2, z1, p1, l1, z2, p2, l2, tf1, tf2, hli]) | (apply hK; clear hK K)
            refine ret_pure ?_; simp only [resL_tmp, resL_nil, tupOf, go_sem, hD]
          · rw [decide_eq_false q2] at rr
            rw [if_neg (fun x => q2 x.2)] at hR
            subst hR
            refine Call.enter' (N := 66) (rs := [.tmp 4]) Tryz.func59 rfl rfl rfl (by decide) rfl ?_; simp only [argT]; have hD : (0 : Nat) = 0 := rfl
            repeat' first | (refine SW.seq_k fun K hK => ?_) | ((first | refine SW.region ?_ | refine SW.regionZ (id := 1) (Checked.mixed Tryz.checked) Go.Ab.zC2_1 (by kernel_rfl) ?_ | refine SW.regionZ (id := 4) (Checked.mixed Tryz.checked) Go.Ab.zC2_2 (by kernel_rfl) ?_ | refine SW.cond ?_ | refine SW.skip ?_ | refine SW.ret ?_ | refine ⟨_, cf, ?_⟩ | refine ⟨_, ct, ?_⟩ | refine ⟨_, wl, ?_⟩ | refine ⟨_, wr, ?_⟩ | refine Call.of_pure (rl) ?_ | refine Call.of_pure (rr) ?_ | (refine allF_i fun b hb => ?_; replace hD := And.intro hb hD; clear hb; try simp only [fresh_cons, fresh_nil, and_true, ne_eq, neF] at hD)); try simp only [Go.Ab.zC2_1, Go.Ab.zC2_2, go_sem, hD, n1, n2, z1, p1, l1, z2, p2, l2, tf1, tf2, hli]) | (apply hK; clear hK K)
            refine ret_pure ?_; simp only [resL_tmp, resL_nil, tupOf, go_sem, hD]
        · rw [decide_eq_false q1] at rl
          rw [if_neg (fun x => q1 x.1)] at hR
          generalize decide dr.Nodup = qq at *
          subst hR
          refine Call.enter' (N := 66) (rs := [.tmp 4]) Tryz.func59 rfl rfl rfl (by decide) rfl ?_; simp only [argT]; have hD : (0 : Nat) = 0 := rfl
          repeat' first | (refine SW.seq_k fun K hK => ?_) | ((first | refine SW.region ?_ | refine SW.regionZ (id := 1) (Checked.mixed Tryz.checked) Go.Ab.zC2_1 (by kernel_rfl) ?_ | refine SW.regionZ (id := 4) (Checked.mixed Tryz.checked) Go.Ab.zC2_2 (by kernel_rfl) ?_ | refine SW.cond ?_ | refine SW.skip ?_ | refine SW.ret ?_ | refine ⟨_, cf, ?_⟩ | refine ⟨_, ct, ?_⟩ | refine ⟨_, wl, ?_⟩ | refine ⟨_, wr, ?_⟩ | refine Call.of_pure (rl) ?_ | (refine allF_i fun b hb => ?_; replace hD := And.intro hb hD; clear hb; try simp only [fresh_cons, fresh_nil, and_true, ne_eq, neF] at hD)); try simp only [Go.Ab.zC2_1, Go.Ab.zC2_2, go_sem, hD, n1, n2, z1, p1, l1, z2, p2, l2, tf1, tf2, hli]) | (apply hK; clear hK K)
          refine ret_pure ?_; simp only [resL_tmp, resL_nil, tupOf, go_sem, hD]
  · have hli : ¬ ((dl.length : Nat) : Int) = ((dr.length : Nat) : Int) := by omega
    rw [if_pos (.inl hlen)] at hR
    generalize winB dl b1.length = w1 at *
    generalize winB dr b2.length = w2 at *
    subst hR
    refine Call.enter' (N := 66) (rs := [.tmp 4]) Tryz.func59 rfl rfl rfl (by decide) rfl ?_; simp only [argT]; have hD : (0 : Nat) = 0 := rfl
    repeat' first | (refine SW.seq_k fun K hK => ?_) | ((first | refine SW.region ?_ | refine SW.regionZ (id := 1) (Checked.mixed Tryz.checked) Go.Ab.zC2_1 (by kernel_rfl) ?_ | refine SW.regionZ (id := 4) (Checked.mixed Tryz.checked) Go.Ab.zC2_2 (by kernel_rfl) ?_ | refine SW.cond ?_ | refine SW.skip ?_ | refine SW.ret ?_ | refine ⟨_, cf, ?_⟩ | refine ⟨_, ct, ?_⟩ | (refine allF_i fun b hb => ?_; replace hD := And.intro hb hD; clear hb; try simp only [fresh_cons, fresh_nil, and_true, ne_eq, neF] at hD)); try simp only [Go.Ab.zC2_1, Go.Ab.zC2_2, go_sem, hD, n1, n2, z1, p1, l1, z2, p2, l2, tf1, tf2, hli]) | (apply hK; clear hK K)
    refine ret_pure ?_; simp only [resL_tmp, resL_nil, tupOf, go_sem, hD]
end Go.Proofs.YtblfodnajpamfaaGreatDoor
namespace Go.Ab.A15
open Go Go.Ab Go.Ab.A34
def OkDb (db : List Tb) : Prop := ∀ t ∈ db, ∀ r ∈ t.rows, r.2.length ≤ 9223372036854775807
end Go.Ab.A15
def Go.Ab.zC3_1 : Go.Ab.OZ := (.one 0 [0, 1, 3, 6, 7] (.one 1 [1, 3, 6, 7] (.one 2 [2, 3, 6, 7] (.one 3 [3, 6, 7] (.one 4 [4, 5, 6, 7] (.one 5 [5, 6, 7] (.one 6 [6, 7] (.one 7 [7] .done))))))))
def Go.Ab.zC3_2 : Go.Ab.OZ := (.one 0 [0, 1, 3, 10, 11] (.one 1 [1, 3, 10, 11] (.one 2 [2, 3, 10, 11] (.one 3 [3, 10, 11] (.one 4 [4, 5, 7, 8, 9, 10, 11] (.one 5 [5, 7, 8, 9, 10, 11] (.one 6 [6, 7, 8, 9, 10, 11] (.one 7 [7, 8, 9, 10, 11] (.one 8 [8, 9, 10, 11] (.one 9 [9, 10, 11] (.one 10 [10, 11] (.one 11 [11] .done))))))))))))
def Go.Ab.zC3_3 : Go.Ab.OZ := (.one 0 [0, 5, 6] (.one 1 [1, 3, 4, 5, 6] (.one 2 [2, 3, 4, 5, 6] (.one 3 [3, 4, 5, 6] (.one 4 [4, 5, 6] (.one 5 [5, 6] (.one 6 [6] .done)))))))
namespace Go.Proofs.YtblfodnajpamfaaGreatDoor
open Go Go.Ab Go.Ab.A34 Go.Ab.A15
variable [Gl] [Tabs]
theorem check_p (db : List Tb) (hdb : db.length ≤ 9223372036854775807) : PCall Tryz.prog 66 [DB db] (I64 (chkS db)) := by
  obtain ⟨R, hR⟩ : ∃ R, R = chkS db := ⟨_, rfl⟩
  rw [← hR]
  unfold chkS at hR
  by_cases h50 : 50 < db.length
  · rw [if_pos h50] at hR
    subst hR
    have h50i : (50 : Int) < ((db.length : Nat) : Int) := by omega
    refine Call.enter' (N := 32) (rs := [.tmp 2]) Tryz.func66 rfl rfl rfl (by decide) rfl ?_; simp only [argT]; have hD : (0 : Nat) = 0 := rfl
    repeat' first | (refine SW.seq_k fun K hK => ?_) | ((first | refine SW.region ?_ | refine SW.cond ?_ | refine SW.ret ?_ | (refine allF_i fun b hb => ?_; replace hD := And.intro hb hD; clear hb; try simp only [fresh_cons, fresh_nil, and_true, ne_eq, neF] at hD)); try simp only [go_sem, hD, h50i]) | (apply hK; clear hK K)
    refine ret_pure ?_; simp only [resL_tmp, resL_nil, tupOf, go_sem, hD]
  · rw [if_neg h50] at hR
    have h50i : ¬ (50 : Int) < ((db.length : Nat) : Int) := by omega
    refine Call.enter' (N := 32) (rs := [.tmp 2]) Tryz.func66 rfl rfl rfl (by decide) rfl ?_; simp only [argT]; have hD : (0 : Nat) = 0 := rfl
    repeat' first | (refine SW.seq_k fun K hK => ?_) | (refine SW.block ?_) | ((first | refine SW.region ?_ | refine SW.cond ?_ | refine SW.skip ?_ | (refine allF_i fun b hb => ?_; replace hD := And.intro hb hD; clear hb; try simp only [fresh_cons, fresh_nil, and_true, ne_eq, neF] at hD)); try simp only [go_sem, hD, h50i]) | (apply hK; clear hK K)
    obtain ⟨xb, rfl⟩ : ∃ x, x = b := ⟨_, rfl⟩
    obtain ⟨I, hI⟩ : ∃ I : Nat → St → Prop, ∀ k S, I k S ↔ (∃ (i : Nat) , k = db.length - i ∧ i ≤ db.length ∧ R = chkF db (db.length - i) i ∧ S = ⟨[(1, .op xb 0), (11, TL db), (12, I64 db.length), (13, I64 i)], [(xb, .svs [TL db])]⟩) := ⟨fun k S => _, fun _ _ => Iff.rfl⟩
    refine SW.loop' I (db.length) ((hI _ _).2 ⟨0, rfl, Nat.zero_le _, hR, rfl⟩) (by repeat' (first | exact rfl | exact trivial | constructor)) ?_
    intro k S hIn
    obtain ⟨i, rfl, hi, hC, rfl⟩ := (hI _ _).1 hIn
    clear hIn
    have ie : ((i : Nat) : Int).toNat = i := Int.toNat_natCast _
    have i0 : (0 : Int) ≤ ((i : Nat) : Int) := by omega
    clear hR
    by_cases hlt : i < db.length
    · have hli : ((i : Nat) : Int) < (((db.length) : Nat) : Int) := by omega
      have w1 : IntKind.i64.wrap ((i : Int) + 1) = ((i + 1 : Nat) : Int) := by rw [i64_wrap (by omega) (by omega)]; omega
      rw [show db.length - i = (db.length - (i + 1)) + 1 by omega, chkF] at hC
      have fi : tF db i = tC (db.getD i t0) := rfl
      have iz : (((i : Nat) : Int) - 0).toNat = i := by omega
      have il : ((i : Nat) : Int) ≤ ((db.length : Nat) : Int) := by omega
      have c1 := valid_tp (db.getD i t0)
      have c2 := find_p (db.getD i t0).name (db.take i) i (by omega) (by rw [List.length_take]; omega) (tF db) (fun j hj => tF_take hj)
      generalize db.getD i t0 = t at *
      generalize tabI t.name 0 (db.take i) = q at *
      generalize validS t = v at *
      obtain ⟨tn, ta, tr⟩ := t
      simp only at c2
      by_cases hv : v = 0
      · rw [if_neg (fun x => x hv)] at hC
        by_cases hq : 0 ≤ q
        · rw [if_pos hq] at hC
          subst hC
          repeat' first | (refine SW.seq_k fun K hK => ?_) | (refine SW.block ?_) | ((first | refine SW.region ?_ | refine SW.regionZ (id := 9) (Checked.mixed Tryz.checked) Go.Ab.zC3_1 (by kernel_rfl) ?_ | refine SW.cond ?_ | refine SW.skip ?_ | refine SW.ret ?_ | refine Call.of_pure (c1) ?_ | refine ⟨_, c2, ?_⟩ | (refine allF_i fun b hb => ?_; replace hD := And.intro hb hD; clear hb; try simp only [fresh_cons, fresh_nil, and_true, ne_eq, neF] at hD)); try simp only [Go.Ab.zC3_1, go_sem, hD, hli, ie, i0, w1, fi, iz, il, hv, hq, true_implies]) | (apply hK; clear hK K)
          refine ret_pure ?_; simp only [resL_tmp, resL_nil, tupOf, go_sem, hD]
        · rw [if_neg hq] at hC
          repeat' first | (refine SW.seq_k fun K hK => ?_) | (refine SW.block ?_) | ((first | refine SW.region ?_ | refine SW.regionZ (id := 9) (Checked.mixed Tryz.checked) Go.Ab.zC3_1 (by kernel_rfl) ?_ | refine SW.cond ?_ | refine SW.skip ?_ | refine Call.of_pure (c1) ?_ | refine ⟨_, c2, ?_⟩ | (refine allF_i fun b hb => ?_; replace hD := And.intro hb hD; clear hb; try simp only [fresh_cons, fresh_nil, and_true, ne_eq, neF] at hD)); try simp only [Go.Ab.zC3_1, go_sem, hD, hli, ie, i0, w1, fi, iz, il, hv, hq, true_implies]) | (apply hK; clear hK K)
          refine Rnd.le (St.le_only ?_) (Rnd.sub (db.length - (i + 1)) (by omega) ((hI _ _).2 ⟨i + 1, rfl, by omega, hC, rfl⟩) (by repeat' (first | exact rfl | exact trivial | constructor)))
          repeat (first | exact List.mem_cons_self | apply List.mem_cons_of_mem)
      · rw [if_pos hv] at hC
        subst hC
        repeat' first | (refine SW.seq_k fun K hK => ?_) | (refine SW.block ?_) | ((first | refine SW.region ?_ | refine SW.cond ?_ | refine SW.skip ?_ | refine SW.ret ?_ | refine Call.of_pure (c1) ?_ | (refine allF_i fun b hb => ?_; replace hD := And.intro hb hD; clear hb; try simp only [fresh_cons, fresh_nil, and_true, ne_eq, neF] at hD)); try simp only [go_sem, hD, hli, ie, i0, w1, fi, iz, il, hv, true_implies]) | (apply hK; clear hK K)
        refine ret_pure ?_; simp only [resL_tmp, resL_nil, tupOf, go_sem, hD]
    · have hli : ¬ ((i : Nat) : Int) < (((db.length) : Nat) : Int) := by omega
      rw [show db.length - i = 0 by omega] at hC
      have hC2 : R = 0 := hC
      subst hC2
      repeat' first | (refine SW.seq_k fun K hK => ?_) | ((first | refine SW.region ?_ | refine SW.cond ?_ | refine SW.exit ?_ | refine SW.ret ?_); try simp only [go_sem, hD, hli]) | (apply hK; clear hK K) | (clear hK K; apply hK; clear hK K)
      refine ret_pure ?_; simp only [resL_tmp, resL_nil, tupOf, go_sem, hD]
theorem check_r (db : List Tb) (hdb : db.length ≤ 9223372036854775807) (hok : OkDb db) : PCall Tryz.prog 58 [DB db] (I64 (chkS db)) := by
  obtain ⟨R, hR⟩ : ∃ R, R = chkS db := ⟨_, rfl⟩
  rw [← hR]
  unfold chkS at hR
  by_cases h50 : 50 < db.length
  · rw [if_pos h50] at hR
    subst hR
    have h50i : (50 : Int) < ((db.length : Nat) : Int) := by omega
    refine Call.enter' (N := 37) (rs := [.tmp 2]) Tryz.func58 rfl rfl rfl (by decide) rfl ?_; simp only [argT]; have hD : (0 : Nat) = 0 := rfl
    repeat' first | (refine SW.seq_k fun K hK => ?_) | ((first | refine SW.region ?_ | refine SW.cond ?_ | refine SW.ret ?_ | (refine allF_i fun b hb => ?_; replace hD := And.intro hb hD; clear hb; try simp only [fresh_cons, fresh_nil, and_true, ne_eq, neF] at hD)); try simp only [go_sem, hD, h50i]) | (apply hK; clear hK K)
    refine ret_pure ?_; simp only [resL_tmp, resL_nil, tupOf, go_sem, hD]
  · rw [if_neg h50] at hR
    have h50i : ¬ (50 : Int) < ((db.length : Nat) : Int) := by omega
    refine Call.enter' (N := 37) (rs := [.tmp 2]) Tryz.func58 rfl rfl rfl (by decide) rfl ?_; simp only [argT]; have hD : (0 : Nat) = 0 := rfl
    repeat' first | (refine SW.seq_k fun K hK => ?_) | (refine SW.block ?_) | ((first | refine SW.region ?_ | refine SW.cond ?_ | refine SW.skip ?_ | (refine allF_i fun b hb => ?_; replace hD := And.intro hb hD; clear hb; try simp only [fresh_cons, fresh_nil, and_true, ne_eq, neF] at hD)); try simp only [go_sem, hD, h50i]) | (apply hK; clear hK K)
    obtain ⟨xb, rfl⟩ : ∃ x, x = b := ⟨_, rfl⟩
    obtain ⟨I, hI⟩ : ∃ I : Nat → St → Prop, ∀ k S, I k S ↔ (∃ (i : Nat) , k = db.length - i ∧ i ≤ db.length ∧ R = chkF db (db.length - i) i ∧ S = ⟨[(1, .op xb 0), (3, I64 i)], [(xb, .svs [TL db])]⟩) := ⟨fun k S => _, fun _ _ => Iff.rfl⟩
    refine SW.loop' I (db.length) ((hI _ _).2 ⟨0, rfl, Nat.zero_le _, hR, rfl⟩) (by repeat' (first | exact rfl | exact trivial | constructor)) ?_
    intro k S hIn
    obtain ⟨i, rfl, hi, hC, rfl⟩ := (hI _ _).1 hIn
    clear hIn
    have ie : ((i : Nat) : Int).toNat = i := Int.toNat_natCast _
    have i0 : (0 : Int) ≤ ((i : Nat) : Int) := by omega
    clear hR
    by_cases hlt : i < db.length
    · have hli : ((i : Nat) : Int) < (((db.length) : Nat) : Int) := by omega
      have w1 : IntKind.i64.wrap ((i : Int) + 1) = ((i + 1 : Nat) : Int) := by rw [i64_wrap (by omega) (by omega)]; omega
      rw [show db.length - i = (db.length - (i + 1)) + 1 by omega, chkF] at hC
      have fi : tF db i = tC (db.getD i t0) := rfl
      have iz : (((i : Nat) : Int) - 0).toNat = i := by omega
      have il : ((i : Nat) : Int) ≤ ((db.length : Nat) : Int) := by omega
      have c1 := valid_tr (db.getD i t0) (hok _ (getD_mem' t0 hlt))
      have c2 := table_r (db.getD i t0).name (db.take i) i (by omega) (by rw [List.length_take]; omega) (tF db) (fun j hj => tF_take hj)
      generalize db.getD i t0 = t at *
      generalize tabI t.name 0 (db.take i) = q at *
      generalize validS t = v at *
      obtain ⟨tn, ta, tr⟩ := t
      simp only at c2
      by_cases hv : v = 0
      · rw [if_neg (fun x => x hv)] at hC
        by_cases hq : 0 ≤ q
        · rw [if_pos hq] at hC
          subst hC
          repeat' first | (refine SW.seq_k fun K hK => ?_) | (refine SW.block ?_) | ((first | refine SW.region ?_ | refine SW.regionZ (id := 9) (Checked.mixed Tryz.checked) Go.Ab.zC3_2 (by kernel_rfl) ?_ | refine SW.cond ?_ | refine SW.skip ?_ | refine SW.ret ?_ | refine Call.of_pure (c1) ?_ | refine ⟨_, c2, ?_⟩); try simp only [Go.Ab.zC3_2, go_sem, hD, hli, ie, i0, w1, fi, iz, il, hv, hq, true_implies]) | (apply hK; clear hK K)
          refine ret_pure ?_; simp only [resL_tmp, resL_nil, tupOf, go_sem, hD]
        · rw [if_neg hq] at hC
          repeat' first | (refine SW.seq_k fun K hK => ?_) | (refine SW.block ?_) | ((first | refine SW.region ?_ | refine SW.regionZ (id := 9) (Checked.mixed Tryz.checked) Go.Ab.zC3_2 (by kernel_rfl) ?_ | refine SW.cond ?_ | refine SW.skip ?_ | refine Call.of_pure (c1) ?_ | refine ⟨_, c2, ?_⟩); try simp only [Go.Ab.zC3_2, go_sem, hD, hli, ie, i0, w1, fi, iz, il, hv, hq, true_implies]) | (apply hK; clear hK K)
          refine Rnd.sub (db.length - (i + 1)) (by omega) ((hI _ _).2 ⟨i + 1, rfl, by omega, hC, rfl⟩) (by repeat' (first | exact rfl | exact trivial | constructor))
      · rw [if_pos hv] at hC
        subst hC
        repeat' first | (refine SW.seq_k fun K hK => ?_) | (refine SW.block ?_) | ((first | refine SW.region ?_ | refine SW.cond ?_ | refine SW.skip ?_ | refine SW.ret ?_ | refine Call.of_pure (c1) ?_); try simp only [go_sem, hD, hli, ie, i0, w1, fi, iz, il, hv, true_implies]) | (apply hK; clear hK K)
        refine ret_pure ?_; simp only [resL_tmp, resL_nil, tupOf, go_sem, hD]
    · have hli : ¬ ((i : Nat) : Int) < (((db.length) : Nat) : Int) := by omega
      rw [show db.length - i = 0 by omega] at hC
      have hC2 : R = 0 := hC
      subst hC2
      repeat' first | (refine SW.seq_k fun K hK => ?_) | ((first | refine SW.region ?_ | refine SW.cond ?_ | refine SW.exit ?_ | refine SW.ret ?_); try simp only [go_sem, hD, hli]) | (apply hK; clear hK K) | (clear hK K; apply hK; clear hK K)
      refine ret_pure ?_; simp only [resL_tmp, resL_nil, tupOf, go_sem, hD]
theorem all_p (db : List Tb) (l : List Dp) (g : Dp) (hdb : db.length ≤ 9223372036854775807) (hll : l.length ≤ 1000000000) (hl : ∀ d ∈ l, OkD d) (hg : OkD g) : PCall Tryz.prog 38 [DB db, DpL l, DV g] (I64 (allS db l g)) := by
  have c1 := check_p db hdb
  have cg := fits_p db g hdb hg
  have cd := fun d (h : d ∈ l) => fits_p db d hdb (hl d h)
  obtain ⟨R, hR⟩ : ∃ R, R = allS db l g := ⟨_, rfl⟩
  rw [← hR]
  unfold allS at hR
  generalize chkS db = v at *
  obtain ⟨gf, gl, gt, gr⟩ := g
  by_cases hv : v = 0
  · rw [if_neg (fun x => x hv)] at hR
    refine Call.enter' (N := 32) (rs := [.tmp 6]) Tryz.func38 rfl rfl rfl (by decide) rfl ?_; simp only [argT]; have hD : (0 : Nat) = 0 := rfl
    repeat' first | (refine SW.seq_k fun K hK => ?_) | (refine SW.block ?_) | ((first | refine SW.region ?_ | refine SW.cond ?_ | refine SW.skip ?_ | refine Call.of_pure (c1) ?_ | (refine allF_i fun b hb => ?_; replace hD := And.intro hb hD; clear hb; try simp only [fresh_cons, fresh_nil, and_true, ne_eq, neF] at hD)); try simp only [go_sem, hD, hv, true_implies]) | (apply hK; clear hK K)
    obtain ⟨gb, rfl⟩ : ∃ x, x = b := ⟨_, rfl⟩
    obtain ⟨xb, rfl⟩ : ∃ x, x = b := ⟨_, rfl⟩
    obtain ⟨I, hI⟩ : ∃ I : Nat → St → Prop, ∀ k S, I k S ↔ (∃ (i : Nat) , k = l.length - i ∧ i ≤ l.length ∧ R = firstE db ⟨gf, gl, gt, gr⟩ (l.drop i) ∧ S = ⟨[(3, .op xb 0), (5, .op gb 0), (16, DpL l), (17, I64 l.length), (18, I64 i)], [(gb, .svs (dC ⟨gf, gl, gt, gr⟩)), (xb, .svs [TL db])]⟩) := ⟨fun k S => _, fun _ _ => Iff.rfl⟩
    refine SW.loop' I (l.length) ((hI _ _).2 ⟨0, rfl, Nat.zero_le _, hR, rfl⟩) (by repeat' (first | exact rfl | exact trivial | constructor)) ?_
    intro k S hIn
    obtain ⟨i, rfl, hi, hC, rfl⟩ := (hI _ _).1 hIn
    clear hIn
    have ie : ((i : Nat) : Int).toNat = i := Int.toNat_natCast _
    have i0 : (0 : Int) ≤ ((i : Nat) : Int) := by omega
    clear hR
    by_cases hlt : i < l.length
    · have hli : ((i : Nat) : Int) < (((l.length) : Nat) : Int) := by omega
      have w1 : IntKind.i64.wrap ((i : Int) + 1) = ((i + 1 : Nat) : Int) := by rw [i64_wrap (by omega) (by omega)]; omega
      rw [firstE_step hlt] at hC
      have fi : dpF l i = dC (l.getD i d0) := rfl
      have c2 := cd _ (getD_mem' d0 hlt)
      generalize l.getD i d0 = d at *
      generalize fitsS db d = u at *
      obtain ⟨df, dl, dt, dr⟩ := d
      by_cases hu : u = 0
      · rw [if_neg (fun x => x hu)] at hC
        repeat' first | (refine SW.seq_k fun K hK => ?_) | (refine SW.block ?_) | ((first | refine SW.region ?_ | refine SW.cond ?_ | refine SW.skip ?_ | refine Call.of_pure (c2) ?_ | (refine allF_i fun b hb => ?_; replace hD := And.intro hb hD; clear hb; try simp only [fresh_cons, fresh_nil, and_true, ne_eq, neF] at hD)); try simp only [go_sem, hD, hli, ie, i0, w1, fi, hu, true_implies]) | (apply hK; clear hK K)
        refine Rnd.le (St.le_pick _ ?_ ?_) (Rnd.sub (l.length - (i + 1)) (by omega) ((hI _ _).2 ⟨i + 1, rfl, by omega, hC, rfl⟩) (by repeat' (first | exact rfl | exact trivial | constructor)))
        · repeat' (first | exact (fun x hx => (List.not_mem_nil hx).elim) | refine List.forall_mem_cons.2 ⟨?_, ?_⟩ | exact List.mem_cons_self | apply List.mem_cons_of_mem)
        · simp [fresh_cons, fresh_nil, hD]
      · rw [if_pos hu] at hC
        subst hC
        repeat' first | (refine SW.seq_k fun K hK => ?_) | (refine SW.block ?_) | ((first | refine SW.region ?_ | refine SW.cond ?_ | refine SW.skip ?_ | refine SW.ret ?_ | refine Call.of_pure (c2) ?_ | (refine allF_i fun b hb => ?_; replace hD := And.intro hb hD; clear hb; try simp only [fresh_cons, fresh_nil, and_true, ne_eq, neF] at hD)); try simp only [go_sem, hD, hli, ie, i0, w1, fi, hu, true_implies]) | (apply hK; clear hK K)
        refine ret_pure ?_; simp only [resL_tmp, resL_nil, tupOf, go_sem, hD]
    · have hli : ¬ ((i : Nat) : Int) < (((l.length) : Nat) : Int) := by omega
      rw [List.drop_of_length_le (by omega)] at hC
      have hC2 : R = fitsS db ⟨gf, gl, gt, gr⟩ := hC
      rw [← hC2] at cg
      repeat' first | (refine SW.seq_k fun K hK => ?_) | ((first | refine SW.region ?_ | refine SW.cond ?_ | refine SW.exit ?_ | refine SW.ret ?_ | refine Call.of_pure (cg) ?_); try simp only [go_sem, hD, hli]) | (apply hK; clear hK K) | (clear hK K; apply hK; clear hK K)
      refine ret_pure ?_; simp only [resL_tmp, resL_nil, tupOf, go_sem, hD]
  · rw [if_pos hv] at hR
    subst hR
    refine Call.enter' (N := 32) (rs := [.tmp 6]) Tryz.func38 rfl rfl rfl (by decide) rfl ?_; simp only [argT]; have hD : (0 : Nat) = 0 := rfl
    repeat' first | (refine SW.seq_k fun K hK => ?_) | ((first | refine SW.region ?_ | refine SW.cond ?_ | refine SW.ret ?_ | refine Call.of_pure (c1) ?_ | (refine allF_i fun b hb => ?_; replace hD := And.intro hb hD; clear hb; try simp only [fresh_cons, fresh_nil, and_true, ne_eq, neF] at hD)); try simp only [go_sem, hD, hv, true_implies]) | (apply hK; clear hK K)
    refine ret_pure ?_; simp only [resL_tmp, resL_nil, tupOf, go_sem, hD]
theorem all_r (db : List Tb) (l : List Dp) (g : Dp) (hdb : db.length ≤ 9223372036854775807) (hok : OkDb db) (hll : l.length ≤ 1000000000) (hl : ∀ d ∈ l, OkD d) (hg : OkD g) : PCall Tryz.prog 27 [DB db, DpL l, DV g] (I64 (allS db l g)) := by
  have c1 := check_r db hdb hok
  have cg := fits_r db g hdb hg
  have cd := fun d (h : d ∈ l) => fits_r db d hdb (hl d h)
  obtain ⟨R, hR⟩ : ∃ R, R = allS db l g := ⟨_, rfl⟩
  rw [← hR]
  unfold allS at hR
  generalize chkS db = v at *
  obtain ⟨gf, gl, gt, gr⟩ := g
  by_cases hv : v = 0
  · rw [if_neg (fun x => x hv)] at hR
    refine Call.enter' (N := 33) (rs := [.tmp 6]) Tryz.func27 rfl rfl rfl (by decide) rfl ?_; simp only [argT]; have hD : (0 : Nat) = 0 := rfl
    repeat' first | (refine SW.seq_k fun K hK => ?_) | (refine SW.block ?_) | ((first | refine SW.region ?_ | refine SW.cond ?_ | refine SW.skip ?_ | refine Call.of_pure (c1) ?_ | (refine allF_i fun b hb => ?_; replace hD := And.intro hb hD; clear hb; try simp only [fresh_cons, fresh_nil, and_true, ne_eq, neF] at hD)); try simp only [go_sem, hD, hv, true_implies]) | (apply hK; clear hK K)
    obtain ⟨gb, rfl⟩ : ∃ x, x = b := ⟨_, rfl⟩
    obtain ⟨xb, rfl⟩ : ∃ x, x = b := ⟨_, rfl⟩
    obtain ⟨I, hI⟩ : ∃ I : Nat → St → Prop, ∀ k S, I k S ↔ (∃ (i : Nat) , k = l.length - i ∧ i ≤ l.length ∧ R = firstE db ⟨gf, gl, gt, gr⟩ (l.drop i) ∧ S = ⟨[(1, DpL l), (3, .op xb 0), (5, .op gb 0), (8, I64 i)], [(gb, .svs (dC ⟨gf, gl, gt, gr⟩)), (xb, .svs [TL db])]⟩) := ⟨fun k S => _, fun _ _ => Iff.rfl⟩
    refine SW.loop' I (l.length) ((hI _ _).2 ⟨0, rfl, Nat.zero_le _, hR, rfl⟩) (by repeat' (first | exact rfl | exact trivial | constructor)) ?_
    intro k S hIn
    obtain ⟨i, rfl, hi, hC, rfl⟩ := (hI _ _).1 hIn
    clear hIn
    have ie : ((i : Nat) : Int).toNat = i := Int.toNat_natCast _
    have i0 : (0 : Int) ≤ ((i : Nat) : Int) := by omega
    clear hR
    by_cases hlt : i < l.length
    · have hli : ((i : Nat) : Int) < (((l.length) : Nat) : Int) := by omega
      have w1 : IntKind.i64.wrap ((i : Int) + 1) = ((i + 1 : Nat) : Int) := by rw [i64_wrap (by omega) (by omega)]; omega
      rw [firstE_step hlt] at hC
      have fi : dpF l i = dC (l.getD i d0) := rfl
      have c2 := cd _ (getD_mem' d0 hlt)
      generalize l.getD i d0 = d at *
      generalize fitsS db d = u at *
      obtain ⟨df, dl, dt, dr⟩ := d
      by_cases hu : u = 0
      · rw [if_neg (fun x => x hu)] at hC
        repeat' first | (refine SW.seq_k fun K hK => ?_) | (refine SW.block ?_) | ((first | refine SW.region ?_ | refine SW.regionZ (id := 7) (Checked.mixed Tryz.checked) Go.Ab.zC3_3 (by kernel_rfl) ?_ | refine SW.cond ?_ | refine SW.skip ?_ | refine ⟨_, c2, ?_⟩); try simp only [Go.Ab.zC3_3, go_sem, hD, hli, ie, i0, w1, fi, hu, true_implies]) | (apply hK; clear hK K)
        refine Rnd.sub (l.length - (i + 1)) (by omega) ((hI _ _).2 ⟨i + 1, rfl, by omega, hC, rfl⟩) (by repeat' (first | exact rfl | exact trivial | constructor))
      · rw [if_pos hu] at hC
        subst hC
        repeat' first | (refine SW.seq_k fun K hK => ?_) | (refine SW.block ?_) | ((first | refine SW.region ?_ | refine SW.regionZ (id := 7) (Checked.mixed Tryz.checked) Go.Ab.zC3_3 (by kernel_rfl) ?_ | refine SW.cond ?_ | refine SW.skip ?_ | refine SW.ret ?_ | refine ⟨_, c2, ?_⟩); try simp only [Go.Ab.zC3_3, go_sem, hD, hli, ie, i0, w1, fi, hu, true_implies]) | (apply hK; clear hK K)
        refine ret_pure ?_; simp only [resL_tmp, resL_nil, tupOf, go_sem, hD]
    · have hli : ¬ ((i : Nat) : Int) < (((l.length) : Nat) : Int) := by omega
      rw [List.drop_of_length_le (by omega)] at hC
      have hC2 : R = fitsS db ⟨gf, gl, gt, gr⟩ := hC
      rw [← hC2] at cg
      repeat' first | (refine SW.seq_k fun K hK => ?_) | ((first | refine SW.region ?_ | refine SW.cond ?_ | refine SW.exit ?_ | refine SW.ret ?_ | refine Call.of_pure (cg) ?_); try simp only [go_sem, hD, hli]) | (apply hK; clear hK K) | (clear hK K; apply hK; clear hK K)
      refine ret_pure ?_; simp only [resL_tmp, resL_nil, tupOf, go_sem, hD]
  · rw [if_pos hv] at hR
    subst hR
    refine Call.enter' (N := 33) (rs := [.tmp 6]) Tryz.func27 rfl rfl rfl (by decide) rfl ?_; simp only [argT]; have hD : (0 : Nat) = 0 := rfl
    repeat' first | (refine SW.seq_k fun K hK => ?_) | ((first | refine SW.region ?_ | refine SW.cond ?_ | refine SW.ret ?_ | refine Call.of_pure (c1) ?_ | (refine allF_i fun b hb => ?_; replace hD := And.intro hb hD; clear hb; try simp only [fresh_cons, fresh_nil, and_true, ne_eq, neF] at hD)); try simp only [go_sem, hD, hv, true_implies]) | (apply hK; clear hK K)
    refine ret_pure ?_; simp only [resL_tmp, resL_nil, tupOf, go_sem, hD]
end Go.Proofs.YtblfodnajpamfaaGreatDoor
namespace Go.Ab.A15
open Go Go.Ab Go.Ab.A34
abbrev SN : SV := .sc (.slice none 0 0)
abbrev sC (s : Sn) : List SV := [Str s.t, IL s.a, I64 s.bf, I64 s.ix, IL s.ps]
def folV (st : ByteArray) (sa : List Int) (idx : Int) (d : Dp) : SV := if st = d.f then (match folI d sa with
  | none => .tup [.agg [Str ⟨#[]⟩, SN, I64 0, I64 0, SN], SB false]
  | some q => .tup [.agg [Str d.t, IL (q.map (·.2)), I64 0, I64 idx, IL (q.map (·.1))], SB true]) else .tup [.agg [Str ⟨#[]⟩, SN, I64 0, I64 0, SN], SB false]
def nexV (st : ByteArray) (sa : List Int) (n : Int) (d : Dp) : SV := if st = d.f then (match folI d sa with
  | none => .tup [.agg [Str ⟨#[]⟩, SN, I64 0], SB false]
  | some q => .tup [.agg [Str d.t, IL (q.map (·.2)), I64 (n + 1)], SB true]) else .tup [.agg [Str ⟨#[]⟩, SN, I64 0], SB false]
def folR (d : Dp) (pre : List (Int × Int)) (o : Option (List (Int × Int))) : Option (List (Int × Int)) := match o with
  | none => none
  | some q => some (pre ++ q)
theorem folI_drop {d : Dp} {a : List Int} {i : Nat} (h : i < a.length) : folI d (a.drop i) = if atI (a.getD i 0) 0 d.l < 0 then none else match folI d (a.drop (i + 1)) with
    | none => none
    | some q => some ((atI (a.getD i 0) 0 d.l, d.r.getD (atI (a.getD i 0) 0 d.l).toNat 0) :: q) := by
  have g : a.getD i 0 = a[i] := by simp [List.getD_eq_getElem?_getD, h]
  rw [List.drop_eq_getElem_cons h, g]
  rfl
theorem ints_get (A : List Int) (p : Nat) : iF A p = getN (.ints .i64 A) (0 + p * 1) 1 := by
  rw [Nat.zero_add, Nat.mul_one]
  rfl
end Go.Ab.A15
def Go.Ab.zC4_1 : Go.Ab.OZ := (.one 0 [0, 1, 8, 9, 10] (.one 1 [1, 8, 9, 10] (.one 2 [2, 3, 5, 6, 7, 8, 9, 10] (.one 3 [3, 5, 6, 7, 8, 9, 10] (.one 4 [4, 5, 6, 7, 8, 9, 10] (.one 5 [5, 6, 7, 8, 9, 10] (.one 6 [6, 7, 8, 9, 10] (.alt 7 (.alt 8 (.one 9 [9, 10] (.alt 10 .done .nil)) .nil) .nil))))))))
namespace Go.Proofs.YtblfodnajpamfaaGreatDoor
open Go Go.Ab Go.Ab.A34 Go.Ab.A15
variable [Gl] [Tabs]
theorem follow_p (st : ByteArray) (sa : List Int) (z1 z2 : Int) (ps : SV) (hps : single ps = true) (idx : Int) (d : Dp) (hlr : d.l.length = d.r.length) (hdl : d.l.length ≤ 1000000) (hsa : sa.length ≤ 1000000) :
    PCall Tryz.prog 69 [.agg [Str st, IL sa, I64 z1, I64 z2, ps], I64 idx, DV d] (folV st sa idx d) := by
  have cd := fun x => index_i x d.l d.l.length (by omega) rfl (iF d.l) (fun i hi => rfl)
  obtain ⟨X, hX⟩ : ∃ X, X = folV st sa idx d := ⟨_, rfl⟩
  rw [← hX]
  unfold folV at hX
  obtain ⟨O, hO⟩ : ∃ O, O = folI d sa := ⟨_, rfl⟩
  rw [← hO] at hX
  have hstep := fun i (h : i < sa.length) => folI_drop (d := d) h
  have hat := fun x => atI_lt (x := x) (l := d.l)
  obtain ⟨df, dl, dt, dr⟩ := d
  simp only at hX hlr hdl hat cd
  by_cases hf : st = df
  · rw [if_pos hf] at hX
    have ee : (st.toList == df.toList) = true := barr_eq.2 hf
    refine Call.enter' (N := 57) (rs := [.cell 6 90, .tmp 7]) Tryz.func69 rfl rfl rfl (by decide) rfl ?_; simp only [argT]; have hD : (0 : Nat) = 0 := rfl
    repeat' first | (refine SW.seq_k fun K hK => ?_) | (refine SW.block ?_) | ((first | refine SW.region ?_ | refine SW.cond ?_ | refine SW.skip ?_ | (refine allF_i fun b hb => ?_; replace hD := And.intro hb hD; clear hb; try simp only [fresh_cons, fresh_nil, and_true, ne_eq, neF] at hD)); try simp only [go_sem, hD, ee, hps, true_implies]) | (apply hK; clear hK K)
    obtain ⟨nb, rfl⟩ : ∃ x, x = b := ⟨_, rfl⟩
    obtain ⟨rb, rfl⟩ : ∃ x, x = b := ⟨_, rfl⟩
    obtain ⟨db, rfl⟩ : ∃ x, x = b := ⟨_, rfl⟩
    obtain ⟨sb, rfl⟩ : ∃ x, x = b := ⟨_, rfl⟩
    have d1 : ¬ nb = rb := by simp [hD]
    have d2 : ¬ rb = nb := by simp [hD]
    have d3 : ¬ nb = db := by simp [hD]
    have d4 : ¬ db = nb := by simp [hD]
    have d5 : ¬ rb = db := by simp [hD]
    have d6 : ¬ db = rb := by simp [hD]
    refine Ab.SW.le (St.le_pick [(nb, .svs [Str dt, SN, I64 0, I64 idx, SN]), (rb, .svs [Str ⟨#[]⟩, SN, I64 0, I64 0, SN]), (db, .svs (dC ⟨df, dl, dt, dr⟩))] ?_ ?_) ?_
    · repeat' (first | exact (fun x hx => (List.not_mem_nil hx).elim) | refine List.forall_mem_cons.2 ⟨?_, ?_⟩ | exact List.mem_cons_self | apply List.mem_cons_of_mem)
    · simp [fresh_cons, fresh_nil, hD]
    clear hD
    obtain ⟨I, hI⟩ : ∃ I : Nat → St → Prop, ∀ k S, I k S ↔ (∃ (i : Nat) (pre : List (Int × Int)) (h : Heap), k = sa.length - i ∧ i ≤ sa.length ∧ pre.length = i ∧ O = folR ⟨df, dl, dt, dr⟩ pre (folI ⟨df, dl, dt, dr⟩ (sa.drop i)) ∧ ((i = 0 ∧ h = [(nb, .svs [Str dt, SN, I64 0, I64 idx, SN]), (rb, .svs [Str ⟨#[]⟩, SN, I64 0, I64 0, SN]), (db, .svs (dC ⟨df, dl, dt, dr⟩))]) ∨ (0 < i ∧ ∃ g1 g2, fresh [(nb, .svs []), (rb, .svs []), (db, .svs [])] g1 ∧ fresh [(g1, .svs []), (nb, .svs []), (rb, .svs []), (db, .svs [])] g2 ∧ h = [(g1, .ints .i64 (pre.map (·.2))), (g2, .ints .i64 (pre.map (·.1))), (nb, .svs [Str dt, .os g1 0 i 1, I64 0, I64 idx, .os g2 0 i 1]), (rb, .svs [Str ⟨#[]⟩, SN, I64 0, I64 0, SN]), (db, .svs (dC ⟨df, dl, dt, dr⟩))])) ∧ S = ⟨[(1, I64 idx), (5, .op db 0), (6, .op rb 0), (7, SB false), (8, .op nb 0), (24, IL sa), (25, I64 sa.length), (26, I64 i)], h⟩) := ⟨fun k S => _, fun _ _ => Iff.rfl⟩
    refine SW.loop' I (sa.length) ((hI _ _).2 ⟨0, [], _, rfl, Nat.zero_le _, rfl, (by rw [hO, List.drop_zero]; cases folI ⟨df, dl, dt, dr⟩ sa <;> rfl), .inl ⟨rfl, rfl⟩, rfl⟩) (by repeat' (first | exact rfl | exact trivial | constructor)) ?_
    intro k S hIn
    obtain ⟨i, pre, h, rfl, hi, hpl, hC, hB, rfl⟩ := (hI _ _).1 hIn
    clear hIn
    have ie : ((i : Nat) : Int).toNat = i := Int.toNat_natCast _
    have i0 : (0 : Int) ≤ ((i : Nat) : Int) := by omega
    clear hO
    by_cases hlt : i < sa.length
    · have hli : ((i : Nat) : Int) < (((sa.length) : Nat) : Int) := by omega
      have w1 : IntKind.i64.wrap ((i : Int) + 1) = ((i + 1 : Nat) : Int) := by rw [i64_wrap (by omega) (by omega)]; omega
      rw [hstep i hlt] at hC
      have fi : iF sa i = [I64 (sa.getD i 0)] := rfl
      have c := cd (sa.getD i 0)
      have ha := hat (sa.getD i 0)
      generalize sa.getD i 0 = x at *
      have hnn : ¬ atI x 0 dl < 0 → ∃ p : Nat, atI x 0 dl = (p : Int) ∧ p < dl.length := fun h => ⟨(atI x 0 dl).toNat, by omega, (ha h).1⟩
      generalize atI x 0 dl = q at *
      have ba : (i + 1) * 8 ≤ 140737488355328 := by omega
      by_cases hq : q < 0
      · rw [if_pos hq] at hC
        have hC2 : O = none := hC
        rw [hC2] at hX
        simp only at hX
        subst hX
        rcases hB with ⟨hi0, rfl⟩ | ⟨hi0, g1, g2, u1, u2, rfl⟩
        · have hD := And.intro (And.intro (eq_false d1) (eq_false d2)) (And.intro (And.intro (eq_false d3) (eq_false d4)) (And.intro (eq_false d5) (eq_false d6)))
          repeat' first | (refine SW.seq_k fun K hK => ?_) | (refine SW.block ?_) | ((first | refine SW.region ?_ | refine SW.cond ?_ | refine SW.skip ?_ | refine SW.ret ?_ | refine Call.of_pure (c) ?_); try simp only [go_sem, hD, hli, ie, i0, w1, fi, hq, true_implies]) | (apply hK; clear hK K)
          apply ret_cell (i := 6) (n := 5); exact rfl; (simp only [go_sem, hD]; try rfl); (first | exact Nat.le_refl _ | decide); simp only [resL_tmp, resL_cellE, resC_ok, resL_nil, tupOf, getN, go_sem, hD]
        · simp only [fresh_cons, fresh_nil, and_true, ne_eq, neF] at u1 u2
          have hD := And.intro u1 (And.intro u2 (And.intro (And.intro (eq_false d1) (eq_false d2)) (And.intro (And.intro (eq_false d3) (eq_false d4)) (And.intro (eq_false d5) (eq_false d6)))))
          repeat' first | (refine SW.seq_k fun K hK => ?_) | (refine SW.block ?_) | ((first | refine SW.region ?_ | refine SW.cond ?_ | refine SW.skip ?_ | refine SW.ret ?_ | refine Call.of_pure (c) ?_); try simp only [go_sem, hD, hli, ie, i0, w1, fi, hq, true_implies]) | (apply hK; clear hK K)
          apply ret_cell (i := 6) (n := 5); exact rfl; (simp only [go_sem, hD]; try rfl); (first | exact Nat.le_refl _ | decide); simp only [resL_tmp, resL_cellE, resC_ok, resL_nil, tupOf, getN, go_sem, hD]
      · rw [if_neg hq] at hC
        obtain ⟨p, rfl, hp⟩ := hnn hq
        have pe : ((p : Nat) : Int).toNat = p := Int.toNat_natCast _
        have p0 : (0 : Int) ≤ ((p : Nat) : Int) := by omega
        have pl : ((p : Nat) : Int) < ((dr.length : Nat) : Int) := by omega
        have fr : iF dr p = [I64 (dr.getD p 0)] := rfl
        rw [pe] at hC
        have hC2 : O = folR ⟨df, dl, dt, dr⟩ (pre ++ [((p : Int), dr.getD p 0)]) (folI ⟨df, dl, dt, dr⟩ (sa.drop (i + 1))) := by
          rw [hC]
          cases folI ⟨df, dl, dt, dr⟩ (sa.drop (i + 1)) with
          | none => rfl
          | some q => simp [folR]
        clear hC
        generalize dr.getD p 0 = y at *
        have hm1 : (pre ++ [((p : Int), y)]).map (·.1) = pre.map (·.1) ++ [(p : Int)] := by rw [List.map_append]; rfl
        have hm2 : (pre ++ [((p : Int), y)]).map (·.2) = pre.map (·.2) ++ [y] := by rw [List.map_append]; rfl
        have hl2 : (pre ++ [((p : Int), y)]).length = i + 1 := by rw [List.length_append, hpl]; rfl
        rcases hB with ⟨hi0, rfl⟩ | ⟨hi0, g1, g2, u1, u2, rfl⟩
        · subst hi0
          have hpre : pre = [] := List.eq_nil_of_length_eq_zero hpl
          subst hpre
          have hD := And.intro (And.intro (eq_false d1) (eq_false d2)) (And.intro (And.intro (eq_false d3) (eq_false d4)) (And.intro (eq_false d5) (eq_false d6)))
          repeat' first | (with_reducible refine And.intro (by omega) ?_) | (refine SW.seq_k fun K hK => ?_) | (refine SW.block ?_) | ((first | refine SW.region ?_ | refine SW.regionZ (id := 11) (Checked.mixed Tryz.checked) Go.Ab.zC4_1 (by kernel_rfl) ?_ | refine SW.cond ?_ | refine SW.skip ?_ | refine Call.of_pure (c) ?_ | (refine allF_i fun b hb => ?_; replace hD := And.intro hb hD; clear hb; try simp only [fresh_cons, fresh_nil, and_true, ne_eq, neF] at hD) | simp only [appK, appOsK]); try simp only [Go.Ab.zC4_1, go_sem, hD, hli, ie, i0, w1, fi, hq, pe, p0, pl, fr, ba, true_implies]) | (refine And.intro (by omega) ?_) | (refine ifI (fun hc => ?_) (fun hc => ?_) <;> first | (exfalso; omega) | skip) | (apply hK; clear hK K)
          all_goals
            obtain ⟨c1, rfl⟩ : ∃ x, x = b := ⟨_, rfl⟩
            obtain ⟨c2, rfl⟩ : ∃ x, x = b := ⟨_, rfl⟩
            obtain ⟨c3, rfl⟩ : ∃ x, x = b := ⟨_, rfl⟩
            refine Rnd.le (St.le_pick _ ?_ ?_) (Rnd.sub (sa.length - (0 + 1)) (by omega) ((hI _ _).2 ⟨0 + 1, [((p : Int), y)], [(c1, .ints .i64 [y]), (c3, .ints .i64 [(p : Int)]), (nb, .svs [Str dt, .os c1 0 1 1, I64 0, I64 idx, .os c3 0 1 1]), (rb, .svs [Str ⟨#[]⟩, SN, I64 0, I64 0, SN]), (db, .svs (dC ⟨df, dl, dt, dr⟩))], rfl, by omega, rfl, hC2, .inr ⟨by omega, c1, c3, by simp [fresh_cons, fresh_nil, hD], by simp [fresh_cons, fresh_nil, hD], rfl⟩, rfl⟩) (by repeat' (first | exact rfl | exact trivial | constructor)))
            · repeat' (first | exact (fun x hx => (List.not_mem_nil hx).elim) | refine List.forall_mem_cons.2 ⟨?_, ?_⟩ | exact List.mem_cons_self | apply List.mem_cons_of_mem)
            · simp [fresh_cons, fresh_nil, hD]
        · have hs1 : (pre.map (·.2)).length = i := by rw [List.length_map, hpl]
          have hs2 : (pre.map (·.1)).length = i := by rw [List.length_map, hpl]
          simp only [fresh_cons, fresh_nil, and_true, ne_eq, neF] at u1 u2
          have hD := And.intro u1 (And.intro u2 (And.intro (And.intro (eq_false d1) (eq_false d2)) (And.intro (And.intro (eq_false d3) (eq_false d4)) (And.intro (eq_false d5) (eq_false d6)))))
          repeat' first | (with_reducible refine And.intro (by omega) ?_) | (refine SW.seq_k fun K hK => ?_) | (refine SW.block ?_) | ((first | refine SW.region ?_ | refine SW.regionZ (id := 11) (Checked.mixed Tryz.checked) Go.Ab.zC4_1 (by kernel_rfl) ?_ | refine SW.cond ?_ | refine SW.skip ?_ | refine Call.of_pure (c) ?_ | (refine allF_i fun b hb => ?_; replace hD := And.intro hb hD; clear hb; try simp only [fresh_cons, fresh_nil, and_true, ne_eq, neF] at hD) | simp only [appK, appOsK]); try simp only [Go.Ab.zC4_1, go_sem, hD, hli, ie, i0, w1, fi, hq, pe, p0, pl, fr, ba, hs1, hs2, true_implies]) | (apply hK; clear hK K)
          all_goals
            obtain ⟨c1, rfl⟩ : ∃ x, x = b := ⟨_, rfl⟩
            obtain ⟨c2, rfl⟩ : ∃ x, x = b := ⟨_, rfl⟩
            obtain ⟨c3, rfl⟩ : ∃ x, x = b := ⟨_, rfl⟩
            refine Rnd.le (St.le_pick _ ?_ ?_) (Rnd.sub (sa.length - (i + 1)) (by omega) ((hI _ _).2 ⟨i + 1, pre ++ [((p : Int), y)], [(c1, .ints .i64 (pre.map (·.2) ++ [y])), (c3, .ints .i64 (pre.map (·.1) ++ [(p : Int)])), (nb, .svs [Str dt, .os c1 0 (i + 1) 1, I64 0, I64 idx, .os c3 0 (i + 1) 1]), (rb, .svs [Str ⟨#[]⟩, SN, I64 0, I64 0, SN]), (db, .svs (dC ⟨df, dl, dt, dr⟩))], rfl, by omega, hl2, hC2, .inr ⟨by omega, c1, c3, by simp [fresh_cons, fresh_nil, hD], by simp [fresh_cons, fresh_nil, hD], by rw [hm1, hm2]⟩, rfl⟩) (by repeat' (first | exact rfl | exact trivial | constructor)))
            · repeat' (first | exact (fun x hx => (List.not_mem_nil hx).elim) | refine List.forall_mem_cons.2 ⟨?_, ?_⟩ | exact List.mem_cons_self | apply List.mem_cons_of_mem)
            · simp [fresh_cons, fresh_nil, hD]
    · have hli : ¬ ((i : Nat) : Int) < (((sa.length) : Nat) : Int) := by omega
      obtain rfl : i = sa.length := by omega
      rw [List.drop_length] at hC
      have hC2 : O = some pre := by rw [hC]; simp [folR, folI]
      rw [hC2] at hX
      simp only at hX
      subst hX
      have l1 : (pre.map (·.1)).length = sa.length := by rw [List.length_map, hpl]
      have l2 : (pre.map (·.2)).length = sa.length := by rw [List.length_map, hpl]
      generalize pre.map (·.1) = P at *
      generalize pre.map (·.2) = A at *
      apply Ab.SW.le (S' := ⟨[(1, I64 idx), (5, .op db 0), (6, .op rb 0), (7, SB false), (8, .op nb 0), (24, IL sa), (25, I64 sa.length), (26, I64 sa.length)], [(nb, .svs [Str dt, IL A, I64 0, I64 idx, IL P]), (rb, .svs [Str ⟨#[]⟩, SN, I64 0, I64 0, SN]), (db, .svs (dC ⟨df, dl, dt, dr⟩))]⟩)
      · rcases hB with ⟨hi0, rfl⟩ | ⟨hi0, g1, g2, u1, u2, rfl⟩
        · have e1 : P = [] := List.eq_nil_of_length_eq_zero (by omega)
          have e2 : A = [] := List.eq_nil_of_length_eq_zero (by omega)
          subst e1 e2
          have s1 := St.le_nilC (t := [(1, I64 idx), (5, .op db 0), (6, .op rb 0), (7, SB false), (8, .op nb 0), (24, IL sa), (25, I64 sa.length), (26, I64 sa.length)]) (h := [(nb, .svs [Str dt, SN, I64 0, I64 idx, SN]), (rb, .svs [Str ⟨#[]⟩, SN, I64 0, I64 0, SN]), (db, .svs (dC ⟨df, dl, dt, dr⟩))]) (c := nb) (j := 1) (sz := 1) (f := iF []) (by rw [find_cons, if_pos rfl]) (by show 1 < 5; omega) rfl
          rw [upd_cons, if_pos rfl] at s1
          have s2 := St.le_nilC (t := [(1, I64 idx), (5, .op db 0), (6, .op rb 0), (7, SB false), (8, .op nb 0), (24, IL sa), (25, I64 sa.length), (26, I64 sa.length)]) (h := [(nb, .svs [Str dt, IL [], I64 0, I64 idx, SN]), (rb, .svs [Str ⟨#[]⟩, SN, I64 0, I64 0, SN]), (db, .svs (dC ⟨df, dl, dt, dr⟩))]) (c := nb) (j := 4) (sz := 1) (f := iF []) (by rw [find_cons, if_pos rfl]) (by show 4 < 5; omega) rfl
          rw [upd_cons, if_pos rfl] at s2
          exact s1.trans s2
        · simp only [fresh_cons, fresh_nil, and_true, ne_eq] at u1 u2
          obtain ⟨⟨a1, a2⟩, ⟨a3, a4⟩, a5, a6⟩ := u1
          obtain ⟨⟨b1, b2⟩, ⟨b3, b4⟩, ⟨b5, b6⟩, b7, b8⟩ := u2
          have s1 := St.le_freezeC (t := [(1, I64 idx), (5, .op db 0), (6, .op rb 0), (7, SB false), (8, .op nb 0), (24, IL sa), (25, I64 sa.length), (26, I64 sa.length)]) (h := [(g1, .ints .i64 A), (g2, .ints .i64 P), (nb, .svs [Str dt, .os g1 0 sa.length 1, I64 0, I64 idx, .os g2 0 sa.length 1]), (rb, .svs [Str ⟨#[]⟩, SN, I64 0, I64 0, SN]), (db, .svs (dC ⟨df, dl, dt, dr⟩))]) (c := nb) (j := 1) (b := g1) (off := 0) (len := sa.length) (sz := 1) (by rw [find_cons, if_neg a2, find_cons, if_neg b4, find_cons, if_pos rfl]) a1 (by show 1 < 5; omega) rfl (by rw [find_cons, if_pos rfl]) (by show 0 + sa.length * 1 ≤ A.length; omega) (iF A) (fun p _ => ints_get A p)
          rw [del_cons, if_pos rfl, upd_cons, if_neg b4, upd_cons, if_pos rfl] at s1
          have s2 := St.le_freezeC (t := [(1, I64 idx), (5, .op db 0), (6, .op rb 0), (7, SB false), (8, .op nb 0), (24, IL sa), (25, I64 sa.length), (26, I64 sa.length)]) (h := [(g2, .ints .i64 P), (nb, .svs [Str dt, .fl sa.length 1 (iF A), I64 0, I64 idx, .os g2 0 sa.length 1]), (rb, .svs [Str ⟨#[]⟩, SN, I64 0, I64 0, SN]), (db, .svs (dC ⟨df, dl, dt, dr⟩))]) (c := nb) (j := 4) (b := g2) (off := 0) (len := sa.length) (sz := 1) (by rw [find_cons, if_neg b4, find_cons, if_pos rfl]) b3 (by show 4 < 5; omega) rfl (by rw [find_cons, if_pos rfl]) (by show 0 + sa.length * 1 ≤ P.length; omega) (iF P) (fun p _ => ints_get P p)
          rw [del_cons, if_pos rfl, upd_cons, if_pos rfl] at s2
          unfold IL
          rw [l1, l2]
          exact s1.trans s2
      · have hD := And.intro (And.intro (eq_false d1) (eq_false d2)) (And.intro (And.intro (eq_false d3) (eq_false d4)) (And.intro (eq_false d5) (eq_false d6)))
        repeat' first | (refine SW.seq_k fun K hK => ?_) | ((first | refine SW.region ?_ | refine SW.cond ?_ | refine SW.exit ?_ | refine SW.ret ?_); try simp only [go_sem, hD, hli, true_implies]) | (apply hK; clear hK K) | (clear hK K; apply hK; clear hK K)
        apply ret_cell (i := 6) (n := 5); exact rfl; (simp only [go_sem, hD]; try rfl); (first | exact Nat.le_refl _ | decide); simp only [resL_tmp, resL_cellE, resC_ok, resL_nil, tupOf, getN, go_sem, hD]
  · rw [if_neg hf] at hX
    subst hX
    have ee : (st.toList == df.toList) = false := by rw [Bool.eq_false_iff]; exact fun h => hf (barr_eq.1 h)
    refine Call.enter' (N := 57) (rs := [.cell 6 90, .tmp 7]) Tryz.func69 rfl rfl rfl (by decide) rfl ?_; simp only [argT]; have hD : (0 : Nat) = 0 := rfl
    repeat' first | (refine SW.seq_k fun K hK => ?_) | ((first | refine SW.region ?_ | refine SW.cond ?_ | refine SW.ret ?_ | (refine allF_i fun b hb => ?_; replace hD := And.intro hb hD; clear hb; try simp only [fresh_cons, fresh_nil, and_true, ne_eq, neF] at hD)); try simp only [go_sem, hD, ee, hps, true_implies]) | (apply hK; clear hK K)
    apply ret_cell (i := 6) (n := 5); exact rfl; (simp only [go_sem, hD]; try rfl); (first | exact Nat.le_refl _ | decide); simp only [resL_tmp, resL_cellE, resC_ok, resL_nil, tupOf, getN, go_sem, hD]
end Go.Proofs.YtblfodnajpamfaaGreatDoor
namespace Go.Ab.A15
theorem split32 : ∀ {t u r s : List UInt8}, (32 : UInt8) ∉ t → (32 : UInt8) ∉ u → (r = [] ∨ ∃ r', r = 32 :: r') → (s = [] ∨ ∃ s', s = 32 :: s') → t ++ r = u ++ s → t = u ∧ r = s
  | [], [], r, s, _, _, _, _, h => ⟨rfl, h⟩
  | [], y :: u, r, s, _, hu, hr, _, h => by
    rcases hr with rfl | ⟨r', rfl⟩
    · simp at h
    · simp only [List.nil_append, List.cons_append, List.cons.injEq] at h
      exact absurd (by rw [h.1]; exact List.mem_cons_self) hu
  | x :: t, [], r, s, ht, _, _, hs, h => by
    rcases hs with rfl | ⟨s', rfl⟩
    · simp at h
    · simp only [List.nil_append, List.cons_append, List.cons.injEq] at h
      exact absurd (by rw [← h.1]; exact List.mem_cons_self) ht
  | x :: t, y :: u, r, s, ht, hu, hr, hs, h => by
    simp only [List.cons_append, List.cons.injEq] at h
    obtain ⟨h1, h2⟩ := split32 (fun hm => ht (List.mem_cons_of_mem _ hm)) (fun hm => hu (List.mem_cons_of_mem _ hm)) hr hs h.2
    exact ⟨by rw [h.1, h1], h2⟩
def tailL (dg : Int → List UInt8) (a : List Int) : List UInt8 := a.flatMap fun x => 32 :: dg x
theorem tail_32 (dg : Int → List UInt8) : ∀ a, tailL dg a = [] ∨ ∃ r, tailL dg a = 32 :: r
  | [] => .inl rfl
  | x :: a => .inr ⟨dg x ++ tailL dg a, rfl⟩
theorem tail_inj {dg : Int → List UInt8} (h1 : ∀ x, 0 ≤ x → x < 16 → (32 : UInt8) ∉ dg x) (h2 : ∀ x y, 0 ≤ x → x < 16 → 0 ≤ y → y < 16 → dg x = dg y → x = y) : ∀ {a b : List Int}, In16 a → In16 b → tailL dg a = tailL dg b → a = b
  | [], [], _, _, _ => rfl
  | [], y :: b, _, _, h => by simp [tailL] at h
  | x :: a, [], _, _, h => by simp [tailL] at h
  | x :: a, y :: b, ha, hb, h => by
    have x1 := ha x List.mem_cons_self
    have y1 := hb y List.mem_cons_self
    have h' : dg x ++ tailL dg a = dg y ++ tailL dg b := by
      have : 32 :: (dg x ++ tailL dg a) = 32 :: (dg y ++ tailL dg b) := h
      simpa using this
    obtain ⟨e1, e2⟩ := split32 (h1 x x1.1 x1.2) (h1 y y1.1 y1.2) (tail_32 dg a) (tail_32 dg b) h'
    rw [h2 x y x1.1 x1.2 y1.1 y1.2 e1, tail_inj h1 h2 (fun z hz => ha z (List.mem_cons_of_mem _ hz)) (fun z hz => hb z (List.mem_cons_of_mem _ hz)) e2]
theorem name_inj {dg : Int → List UInt8} (h1 : ∀ x, 0 ≤ x → x < 16 → (32 : UInt8) ∉ dg x) (h2 : ∀ x y, 0 ≤ x → x < 16 → 0 ≤ y → y < 16 → dg x = dg y → x = y) {t u : List UInt8} {a b : List Int} (ht : (32 : UInt8) ∉ t) (hu : (32 : UInt8) ∉ u) (ha : In16 a) (hb : In16 b)
    (h : t ++ tailL dg a = u ++ tailL dg b) : t = u ∧ a = b := by
  obtain ⟨e1, e2⟩ := split32 ht hu (tail_32 dg a) (tail_32 dg b) h
  exact ⟨e1, tail_inj h1 h2 ha hb e2⟩
end Go.Ab.A15
namespace Go.Ab.A15
open Go Go.Ab Go.Ab.A34
def nameS (t : ByteArray) : List Int → ByteArray
  | [] => t
  | x :: r => nameS (t ++ (⟨#[32]⟩ ++ itoaS x)) r
theorem nameS_step {t : ByteArray} {l : List Int} {i : Nat} (h : i < l.length) : nameS t (l.drop i) = nameS (t ++ (⟨#[32]⟩ ++ itoaS (l.getD i 0))) (l.drop (i + 1)) := by
  have g : l.getD i 0 = l[i] := by simp [List.getD_eq_getElem?_getD, h]
  rw [List.drop_eq_getElem_cons h, g]
  rfl
def dgL (x : Int) : List UInt8 := (itoaS x).data.toList
theorem app_list (a b : ByteArray) : (a ++ b).data.toList = a.data.toList ++ b.data.toList := by
  rw [ByteArray.data_append, Array.toList_append]
theorem nameS_list : ∀ (a : List Int) (t : ByteArray), (nameS t a).data.toList = t.data.toList ++ tailL dgL a
  | [], t => by simp [nameS, tailL]
  | x :: r, t => by
    rw [nameS, nameS_list r, app_list, app_list]
    show t.data.toList ++ ([32] ++ dgL x) ++ tailL dgL r = t.data.toList ++ (32 :: dgL x ++ tailL dgL r)
    simp
theorem dg_32 : ∀ x : Fin 16, (32 : UInt8) ∉ dgL (x.val : Int) := by decide +kernel
theorem dg_inj : ∀ x y : Fin 16, dgL (x.val : Int) = dgL (y.val : Int) → x.val = y.val := by decide +kernel
theorem dg_32' (x : Int) (h0 : 0 ≤ x) (h : x < 16) : (32 : UInt8) ∉ dgL x := by
  have := dg_32 ⟨x.toNat, by omega⟩
  rwa [show ((x.toNat : Nat) : Int) = x by omega] at this
theorem dg_inj' (x y : Int) (h0 : 0 ≤ x) (h : x < 16) (h0' : 0 ≤ y) (h' : y < 16) (e : dgL x = dgL y) : x = y := by
  have := dg_inj ⟨x.toNat, by omega⟩ ⟨y.toNat, by omega⟩
  rw [show ((x.toNat : Nat) : Int) = x by omega, show ((y.toNat : Nat) : Int) = y by omega] at this
  have := this e
  simp only at this
  omega
theorem name_32 {l : List UInt8} (h : nameB l = true) : (32 : UInt8) ∉ l := by
  intro hm
  cases l with
  | nil => cases hm
  | cons c r =>
    unfold nameB at h
    simp only [Bool.and_eq_true, List.all_eq_true] at h
    have := h.2 _ hm
    revert this
    decide
theorem nameS_inj {t u : ByteArray} {a b : List Int} (ht : nameB t.data.toList = true) (hu : nameB u.data.toList = true) (ha : In16 a) (hb : In16 b) (h : nameS t a = nameS u b) : t = u ∧ a = b := by
  have e := congrArg (fun x : ByteArray => x.data.toList) h
  simp only [nameS_list] at e
  obtain ⟨e1, e2⟩ := name_inj dg_32' dg_inj' (name_32 ht) (name_32 hu) ha hb e
  exact ⟨ba_ext e1, e2⟩
def mapF : Nat → List Sn → List (Value × Value)
  | _, [] => []
  | i, s :: l => (.string (nameS s.t s.a), .int .i64 i) :: mapF (i + 1) l
theorem mapF_app : ∀ (l : List Sn) (i : Nat) (s : Sn), mapF i (l ++ [s]) = mapF i l ++ [(.string (nameS s.t s.a), .int .i64 ((i + l.length : Nat) : Int))]
  | [], i, s => rfl
  | x :: l, i, s => by
    rw [List.cons_append, mapF, mapF_app l, mapF, List.cons_append, List.length_cons]
    rw [show i + 1 + l.length = i + (l.length + 1) by omega]
theorem same_s (a b : ByteArray) : sameC .s (.string a) (.string b) = some (decide (a = b)) := by
  show some (a.data == b.data) = some (decide (a = b))
  congr 1
  rw [Bool.eq_iff_iff, beq_iff_eq, decide_eq_true_iff]
  exact ⟨fun h => ba_ext (by rw [h]), fun h => by rw [h]⟩
def mres (z : Int) : Option (Nat × Value) := if z < 0 then none else some (z.toNat, .int .i64 z)
theorem mfI_find {t : ByteArray} {a : List Int} (ht : nameB t.data.toList = true) (ha : In16 a) : ∀ (l : List Sn) (i : Nat), (∀ s ∈ l, nameB s.t.data.toList = true ∧ In16 s.a) → mfI .s (.string (nameS t a)) (mapF i l) i = some (mres (findS t a i l))
  | [], i, _ => by simp [mapF, mfI, findS, mres]
  | s :: l, i, h => by
    obtain ⟨h1, h2⟩ := h s List.mem_cons_self
    rw [mapF, mfI, same_s]
    unfold findS
    by_cases e : s.t = t ∧ s.a = a
    · rw [if_pos e, decide_eq_true (by rw [e.1, e.2])]
      unfold mres
      rw [if_neg (by omega)]
      simp
    · rw [if_neg e, decide_eq_false (fun e2 => e (by obtain ⟨g1, g2⟩ := nameS_inj ht h1 ha h2 e2; exact ⟨g1.symm, g2.symm⟩))]
      exact mfI_find ht ha l (i + 1) (fun s hs => h s (List.mem_cons_of_mem _ hs))
end Go.Ab.A15
