/- Contract of strconv.FormatUint at base 10. -/
import Derived.Test.YtcbgkcjlechdnaaDoorR1
import Derived.Test.YtcbgkcjlechdnaaDoorS1
import Derived.Test.YtcbgkcjlechdnaaDoorZ6
import Derived.Lib.LaidTab
import Derived.Lib.ItoaMem
import Derived.Lib.ItoaLen
set_option linter.unusedSimpArgs false
set_option linter.unusedVariables false
set_option linter.unusedSectionVars false
namespace Go.Ab
open Go
/-- A table of numbers, as package-level variable. -/
theorem tabIs_of [Gl] {P : Program} {w : World} {E : Env} {name : String} {k : IntKind} {zs : List Int} {g : Nat} (hn : P.globalNamed name = some g) (hg : Gl.gl g = .fp (zs.map fun z => .sc (.int k z))) (hs : Gl.sz g = some zs.length)
    (hgl : GlOk E) (hsee : ∀ a v, E.see a v → w.cell? a = some v) (hsz : ∀ b m, E.size b m → HasSize w b m) : Lib.TabIs P w name k zs := by
  obtain ⟨h1, h2⟩ := hgl g
  rw [hg] at h1
  obtain ⟨c, e, fr, hc, hcs⟩ := hsz g _ (h2 _ hs)
  unfold Lib.TabIs World.var?
  rw [hn]
  simp only [Option.bind_some, hc]
  congr 1
  cases h1 with
  | fp _ _ _ val hv hr =>
    apply Array.ext
    · simp [hcs]
    · intro i hi hi2
      have hi3 : i < zs.length := by omega
      have h3 := hsee _ _ (hv i (by simpa using hi3))
      have h4 := hr i (by simpa using hi3)
      simp [World.cell?, hc, hi] at h3
      rw [h3]
      have h5 : (zs.map fun z => SV.sc (Value.int k z)).getD i .any = .sc (.int k zs[i]) := by simp [List.getD_eq_getElem?_getD, hi3]
      rw [h5] at h4
      generalize val i = v at h4
      cases h4
      simp
theorem bstr_bytes (l : List UInt8) : bstr (l.map fun x => (x.toNat : Int)) = ⟨l.toArray⟩ := by
  unfold bstr
  congr 2
  rw [List.map_map]
  conv => rhs; rw [← List.map_id l]
  refine List.map_congr_left fun x _ => ?_
  simp
end Go.Ab
namespace Go.Proofs.YtcbgkcjlechdnaaDoor
open Go Go.Ab

/-- What the tables hold. -/
class Tabs [Gl] : Prop where
  g2 : Gl.gl 2 = .fp (Lib.pow10Tab.map fun z => .sc (.int .u64 z))
  s2 : Gl.sz 2 = some 20

variable [Gl] [Tabs]

theorem small_c (i : Nat) (h : i < 100) : PCall Tryd.prog 61 [I64 i] (.sc (.string ⟨(Lib.decDigits i).toArray⟩)) :=
  PCall.of_calls ⟨_, Tryd.func61, by kernel_rfl, by kernel_rfl⟩ fun w E vs _ _ _ hr => by
    obtain rfl := reps1 hr
    exact (Tryd.internal_strconv_small i h w).mono fun e w' ⟨he, hw⟩ => ⟨_, he, fun _ => .sc _, by rw [hw]; exact RowKit.Below.refl _ _⟩

theorem numDigits_c (u : Nat) (h1 : 1 ≤ u) (h2 : u < 18446744073709551616) : PCall Tryd.prog 62 [U64 u] (I64 (Lib.nDigits u)) :=
  PCall.of_calls ⟨_, Tryd.func62, by kernel_rfl, by kernel_rfl⟩ fun w E vs h3 h4 h5 hr => by
    obtain rfl := reps1 hr
    exact (Tryd.internal_strconv_numDigits u h1 h2 w (tabIs_of (g := 2) (by kernel_rfl) Tabs.g2 (by rw [Tabs.s2, Lib.pow10Tab_length]) h5 h3 h4)).mono fun e w' ⟨he, hw⟩ => ⟨_, he, fun _ => .sc _, by rw [hw]; exact RowKit.Below.refl _ _⟩

theorem format_c (b u : Nat) (l : List Int) (d : Array UInt8) (hu : u < 10 ^ d.size) (hu64 : u < 18446744073709551616) (hsz : d.size < 4611686018427387904) (hl : ∀ j, j < d.size → l.getD j 0 = (d[j]!.toNat : Int)) (hle : d.size ≤ l.length) :
    Ab.Call Tryd.prog 63 [.os b 0 d.size 1, U64 u] [(b, .ints .u8 l)] (fun r' h' => r' = .sc (.tuple #[]) ∧ ∃ dk : Array UInt8, (∃ v', Lib.FmtInv d.size u 0 v' dk) ∧ dk.size = d.size ∧ h' = [(b, .ints .u8 (over l 0 (dk.toList.map fun x => (x.toNat : Int))))]) :=
  Ab.Call.of_row ⟨_, Tryd.func63, by kernel_rfl, by kernel_rfl⟩ .u8 (fun x : UInt8 => (x.toNat : Int)) d b 0 l [.int .u64 u] (.tuple #[]) (fun dk => ∃ v', Lib.FmtInv d.size u 0 v' dk) (fun j hj => by rw [Nat.zero_add]; exact hl j hj) (by omega)
    fun w E cap hgl hsee hold hcap => (Tryd.internal_strconv_formatBase10 b 0 cap u d w hold hu hu64 hsz).mono fun e w' ⟨he, n, v', dk, hw, hinv⟩ => ⟨he, n, dk, hw, hinv.size, v', hinv⟩

set_option maxRecDepth 20000 in
theorem fmtUint0 (u : Nat) (hu : u < 18446744073709551616) : PCall Tryd.prog 55 [U64 u, I64 10] (.sc (.string ⟨(Lib.decDigits u).toArray⟩)) := by
  by_cases h : u < 100
  · have e1 : (u : Int) < 100 := by omega
    have e2 : IntKind.i64.wrap (u : Int) = (u : Int) := i64_wrap (by omega) (by omega)
    have s := small_c u h
    refine Call.enter' (N := 32) (rs := [.tmp 4]) Tryd.func55 rfl rfl rfl (by decide) rfl ?_; simp only [argT]; have hD : (0 : Nat) = 0 := rfl
    repeat' first
      | (refine SW.seq_k fun K hK => ?_)
      | (refine SW.block ?_)
      | ((first
      | refine SW.region ?_
      | refine SW.regionD (Checked.mixed Tryd.checked) (by kernel_rfl) ?_
      | refine SW.cond ?_
      | refine SW.skip ?_
      | refine SW.exit ?_
      | refine SW.ret ?_
      | refine Call.of_pure (s) ?_
      | refine ⟨_, s, ?_⟩
      | (refine allF_i fun b hb => ?_; replace hD := And.intro hb hD; clear hb; simp only [fresh_cons, fresh_nil, and_true, ne_eq, neF] at hD)
      | simp only [appK, appOsK]); try simp only [go_sem, ↓reduceIte, reduceCtorEq, Nat.reduceAdd, Nat.reduceMul, Nat.reduceSub, Nat.reduceLT, Nat.reduceLeDiff, Nat.reduceEqDiff, Nat.reduceBEq, Nat.reduceBneDiff, Int.reduceToNat, Int.toNat_natCast, eq_self, decide_true, decide_false, Int.reduceEq, and_true, true_and, if_false_eq, if_true_eq, List.getElem?_cons_zero, List.getElem?_cons_succ, setAll, List.length_cons, List.length_nil, List.length_set, List.getD_cons_zero, List.getD_cons_succ, Nat.le_refl, Int.le_refl, Nat.beq_refl, or_self, true_or, or_true, List.drop_zero, hD, e1, e2])
      | (refine And.intro (by omega) ?_)
      | (refine ifI (fun hc => ?_) (fun hc => ?_) <;> first | (exfalso; omega) | skip)
      | (first | (apply hK; clear hK K) | (clear hK K; apply hK; clear hK K) | (clear hK K; clear hK K; apply hK; clear hK K) | (clear hK K; clear hK K; clear hK K; apply hK; clear hK K) | (clear hK K; clear hK K; clear hK K; clear hK K; apply hK; clear hK K) | (clear hK K; clear hK K; clear hK K; clear hK K; clear hK K; apply hK; clear hK K))
      | fail
    refine ret_pure ?_; simp only [resL_tmp, resL_nil, tupOf, go_sem, ↓reduceIte, reduceCtorEq, Nat.reduceAdd, Nat.reduceMul, Nat.reduceSub, Nat.reduceLT, Nat.reduceLeDiff, Nat.reduceEqDiff, Nat.reduceBEq, Nat.reduceBneDiff, Int.reduceToNat, Int.toNat_natCast, eq_self, decide_true, decide_false, Int.reduceEq, and_true, true_and, if_false_eq, if_true_eq, List.getElem?_cons_zero, List.getElem?_cons_succ, setAll, List.length_cons, List.length_nil, List.length_set, List.getD_cons_zero, List.getD_cons_succ, Nat.le_refl, Int.le_refl, Nat.beq_refl, or_self, true_or, or_true, List.drop_zero, hD]
  · have e1 : ¬ (u : Int) < 100 := by omega
    have nd := numDigits_c u (by omega) hu
    refine Call.enter' (N := 32) (rs := [.tmp 4]) Tryd.func55 rfl rfl rfl (by decide) rfl ?_; simp only [argT]; have hD : (0 : Nat) = 0 := rfl
    repeat' first
      | (refine SW.seq_k fun K hK => ?_)
      | (refine SW.block ?_)
      | ((first
      | refine SW.region ?_
      | refine SW.regionD (Checked.mixed Tryd.checked) (by kernel_rfl) ?_
      | refine SW.cond ?_
      | refine SW.skip ?_
      | refine SW.exit ?_
      | refine SW.ret ?_
      | refine Call.of_pure (nd) ?_
      | refine ⟨_, nd, ?_⟩
      | (refine allF_i fun b hb => ?_; replace hD := And.intro hb hD; clear hb; simp only [fresh_cons, fresh_nil, and_true, ne_eq, neF] at hD)
      | simp only [appK, appOsK]); try simp only [go_sem, ↓reduceIte, reduceCtorEq, Nat.reduceAdd, Nat.reduceMul, Nat.reduceSub, Nat.reduceLT, Nat.reduceLeDiff, Nat.reduceEqDiff, Nat.reduceBEq, Nat.reduceBneDiff, Int.reduceToNat, Int.toNat_natCast, eq_self, decide_true, decide_false, Int.reduceEq, and_true, true_and, if_false_eq, if_true_eq, List.getElem?_cons_zero, List.getElem?_cons_succ, setAll, List.length_cons, List.length_nil, List.length_set, List.getD_cons_zero, List.getD_cons_succ, Nat.le_refl, Int.le_refl, Nat.beq_refl, or_self, true_or, or_true, List.drop_zero, hD, e1])
      | (refine And.intro (by omega) ?_)
      | (refine ifI (fun hc => ?_) (fun hc => ?_) <;> first | (exfalso; omega) | skip)
      | (first | (apply hK; clear hK K) | (clear hK K; apply hK; clear hK K) | (clear hK K; clear hK K; apply hK; clear hK K) | (clear hK K; clear hK K; clear hK K; apply hK; clear hK K) | (clear hK K; clear hK K; clear hK K; clear hK K; apply hK; clear hK K) | (clear hK K; clear hK K; clear hK K; clear hK K; clear hK K; apply hK; clear hK K))
      | fail
    have hn := Lib.nDigits_le20 u hu
    have hn1 := Lib.nDigits_pos u
    have e2 : ((Lib.nDigits u : Nat) : Int) ≤ ((24 : Nat) : Int) := by omega
    have e3 : (0 : Int) < ((Lib.nDigits u : Nat) : Int) := by omega
    have e4 : (((Lib.nDigits u : Nat) : Int) - 0).toNat = Lib.nDigits u := by omega
    have fc := format_c b u (List.replicate 24 0) (Array.replicate (Lib.nDigits u) 0) (by simp only [Array.size_replicate]; exact Lib.lt_pow_nDigits u) hu (by simp only [Array.size_replicate]; omega)
      (fun j hj => by
        have hj' : j < Lib.nDigits u := by simpa using hj
        have h24 : j < 24 := by omega
        rw [List.getD_eq_getElem?_getD, List.getElem?_replicate, if_pos h24]
        simp [hj'])
      (by simp only [Array.size_replicate, List.length_replicate]; omega)
    simp only [Array.size_replicate] at fc
    refine And.intro (by first | omega | exact ⟨by omega, by omega⟩ | exact ⟨by omega, by omega, by omega⟩) ?_
    rw [e4]
    refine Call.blk (k' := .ints .u8 (List.replicate 24 0)) rfl (Ab.Call.mono fc ?_)
    rintro r h' ⟨rfl, dk, ⟨v', hinv⟩, hds, rfl⟩
    first | (apply hK; clear hK K) | (clear hK K; apply hK; clear hK K) | (clear hK K; clear hK K; apply hK; clear hK K) | (clear hK K; clear hK K; clear hK K; apply hK; clear hK K) | (clear hK K; clear hK K; clear hK K; clear hK K; apply hK; clear hK K) | (clear hK K; clear hK K; clear hK K; clear hK K; clear hK K; apply hK; clear hK K)
    have hov : (over (List.replicate 24 0) 0 (dk.toList.map fun x => (x.toNat : Int))).length = 24 := by rw [over_length (by simp; omega)]; simp
    repeat' first
      | (refine SW.seq_k fun K hK => ?_)
      | (refine SW.block ?_)
      | ((first
      | refine SW.region ?_
      | refine SW.regionD (Checked.mixed Tryd.checked) (by kernel_rfl) ?_
      | refine SW.cond ?_
      | refine SW.skip ?_
      | refine SW.exit ?_
      | refine SW.ret ?_
      | refine Call.of_pure (nd) ?_
      | refine ⟨_, nd, ?_⟩
      | (refine allF_i fun b hb => ?_; replace hD := And.intro hb hD; clear hb; simp only [fresh_cons, fresh_nil, and_true, ne_eq, neF] at hD)
      | simp only [appK, appOsK]); try simp only [go_sem, ↓reduceIte, reduceCtorEq, Nat.reduceAdd, Nat.reduceMul, Nat.reduceSub, Nat.reduceLT, Nat.reduceLeDiff, Nat.reduceEqDiff, Nat.reduceBEq, Nat.reduceBneDiff, Int.reduceToNat, Int.toNat_natCast, eq_self, decide_true, decide_false, Int.reduceEq, and_true, true_and, if_false_eq, if_true_eq, List.getElem?_cons_zero, List.getElem?_cons_succ, setAll, List.length_cons, List.length_nil, List.length_set, List.getD_cons_zero, List.getD_cons_succ, Nat.le_refl, Int.le_refl, Nat.beq_refl, or_self, true_or, or_true, List.drop_zero, hD, e2, e3, e4, hov])
      | (refine And.intro (by omega) ?_)
      | (refine ifI (fun hc => ?_) (fun hc => ?_) <;> first | (exfalso; omega) | skip)
      | (first | (apply hK; clear hK K) | (clear hK K; apply hK; clear hK K) | (clear hK K; clear hK K; apply hK; clear hK K) | (clear hK K; clear hK K; clear hK K; apply hK; clear hK K) | (clear hK K; clear hK K; clear hK K; clear hK K; apply hK; clear hK K) | (clear hK K; clear hK K; clear hK K; clear hK K; clear hK K; apply hK; clear hK K))
      | fail
    refine ret_pure ?_; simp only [resL_tmp, resL_nil, tupOf, go_sem, ↓reduceIte, reduceCtorEq, Nat.reduceAdd, Nat.reduceMul, Nat.reduceSub, Nat.reduceLT, Nat.reduceLeDiff, Nat.reduceEqDiff, Nat.reduceBEq, Nat.reduceBneDiff, Int.reduceToNat, Int.toNat_natCast, eq_self, decide_true, decide_false, Int.reduceEq, and_true, true_and, if_false_eq, if_true_eq, List.getElem?_cons_zero, List.getElem?_cons_succ, setAll, List.length_cons, List.length_nil, List.length_set, List.getD_cons_zero, List.getD_cons_succ, Nat.le_refl, Int.le_refl, Nat.beq_refl, or_self, true_or, or_true, List.drop_zero, hD]
    congr 4
    have hov2 : (over (List.replicate 24 0) 0 (dk.toList.map fun x => (x.toNat : Int))).take (Lib.nDigits u) = dk.toList.map fun x => (x.toNat : Int) := by
      unfold over
      rw [List.take_zero, List.nil_append, List.take_append_of_le_length (by simp; omega), List.take_of_length_le (by simp; omega)]
    rw [hov2, bstr_bytes]
    congr 1
    congr 1
    apply List.ext_getElem
    · simp [hds, Lib.decDigits_length]
    · intro j h1 h2
      rw [Lib.row_is_numeral hinv j h2, getElem!_pos dk j (by simpa using h1)]
      simp

theorem fmtUint (u : Nat) (hu : u < 18446744073709551616) : PCall Tryd.prog 44 [U64 u, I64 10] (.sc (.string ⟨(Lib.decDigits u).toArray⟩)) := by
  have f := fmtUint0 u hu
  refine Call.enter' (N := 8) (rs := [.tmp 4]) Tryd.func44 rfl rfl rfl (by decide) rfl ?_; simp only [argT]; have hD : (0 : Nat) = 0 := rfl
  repeat' first
    | (refine SW.seq_k fun K hK => ?_)
    | (refine SW.block ?_)
    | ((first
      | refine SW.region ?_
      | refine SW.regionD (Checked.mixed Tryd.checked) (by kernel_rfl) ?_
      | refine SW.cond ?_
      | refine SW.skip ?_
      | refine SW.exit ?_
      | refine SW.ret ?_
      | refine Call.of_pure (f) ?_
      | refine ⟨_, f, ?_⟩
      | (refine allF_i fun b hb => ?_; replace hD := And.intro hb hD; clear hb; simp only [fresh_cons, fresh_nil, and_true, ne_eq, neF] at hD)
      | simp only [appK, appOsK]); try simp only [go_sem, ↓reduceIte, reduceCtorEq, Nat.reduceAdd, Nat.reduceMul, Nat.reduceSub, Nat.reduceLT, Nat.reduceLeDiff, Nat.reduceEqDiff, Nat.reduceBEq, Nat.reduceBneDiff, Int.reduceToNat, Int.toNat_natCast, eq_self, decide_true, decide_false, Int.reduceEq, and_true, true_and, if_false_eq, if_true_eq, List.getElem?_cons_zero, List.getElem?_cons_succ, setAll, List.length_cons, List.length_nil, List.length_set, List.getD_cons_zero, List.getD_cons_succ, Nat.le_refl, Int.le_refl, Nat.beq_refl, or_self, true_or, or_true, List.drop_zero, hD])
    | (refine And.intro (by omega) ?_)
    | (refine ifI (fun hc => ?_) (fun hc => ?_) <;> first | (exfalso; omega) | skip)
    | (first | (apply hK; clear hK K) | (clear hK K; apply hK; clear hK K) | (clear hK K; clear hK K; apply hK; clear hK K) | (clear hK K; clear hK K; clear hK K; apply hK; clear hK K) | (clear hK K; clear hK K; clear hK K; clear hK K; apply hK; clear hK K) | (clear hK K; clear hK K; clear hK K; clear hK K; clear hK K; apply hK; clear hK K))
    | fail
  refine ret_pure ?_; simp only [resL_tmp, resL_nil, tupOf, go_sem, ↓reduceIte, reduceCtorEq, Nat.reduceAdd, Nat.reduceMul, Nat.reduceSub, Nat.reduceLT, Nat.reduceLeDiff, Nat.reduceEqDiff, Nat.reduceBEq, Nat.reduceBneDiff, Int.reduceToNat, Int.toNat_natCast, eq_self, decide_true, decide_false, Int.reduceEq, and_true, true_and, if_false_eq, if_true_eq, List.getElem?_cons_zero, List.getElem?_cons_succ, setAll, List.length_cons, List.length_nil, List.length_set, List.getD_cons_zero, List.getD_cons_succ, Nat.le_refl, Int.le_refl, Nat.beq_refl, or_self, true_or, or_true, List.drop_zero, hD]
end Go.Proofs.YtcbgkcjlechdnaaDoor
