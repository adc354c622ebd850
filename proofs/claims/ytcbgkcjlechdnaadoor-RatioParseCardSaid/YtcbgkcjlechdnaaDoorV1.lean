/- Contracts: strconv.FormatInt, strconv.ParseInt, strings.Cut; Format and Parse of the program. -/
import Derived.Test.YtcbgkcjlechdnaaDoorU2
import Derived.Test.YtcbgkcjlechdnaaDoorS2
import Derived.Lib.SmallJoins
import Derived.Lib.AppendIntMem
set_option linter.unusedSimpArgs false
set_option linter.unusedVariables false
set_option linter.unusedSectionVars false
namespace Go.Ab
open Go Go.RowKit
section
variable {P : Program}
/-- A call that hands back one of several results and touches nothing that is owned. -/
def ECall [Gl] (P : Program) (f : FuncId) (args : List SV) (Good : SV → Prop) : Prop := Ab.Call P f args [] (fun r h' => Good r ∧ h' = [])

theorem ECall.of_calls [Gl] {f : FuncId} {args : List SV} {Good : SV → Prop} (hbody : Body P f)
    (h : ∀ (w : World) (E : Env) (vs : Array Value), (∀ a v, E.see a v → w.cell? a = some v) → (∀ b m, E.size b m → HasSize w b m) → GlOk E → Reps E vs args →
      Calls P f vs w fun e w' => ∃ v r, e = .returned v ∧ Good r ∧ (∀ E', Rep E' v r) ∧ Below w.heap.size w w') : ECall P f args Good := by
  refine ⟨fun M w vs own hr => .inl ⟨hbody, (h w (envOf (hid M []) w) vs (fun a v x => x.2) (fun b m x => x) own.gl hr).mono fun e w' ⟨v, r, he, hg, hv, bel⟩ => ?_⟩⟩
  have frm : Frm (Heap.has []) w w' := ⟨bel.size, fun b hb _ => bel.block b hb, fun b m ⟨c, e, fr, hb, hs⟩ => ⟨c, e, fr, by rw [bel.block b (lt_of_heap hb)]; exact hb, hs⟩, bel.os, bel.tape, bel.output⟩
  have hle : (envOf (hid M []) w).le (envOf (hid M []) w') := env_le frm (fun b hb _ => by obtain ⟨k, hk⟩ := hb; cases hk) (fun _ _ x => x)
  exact ⟨v, r, [], he, ⟨hg, rfl⟩, hv _, ⟨own.nodup, own.notM, fun b hb => Nat.lt_of_lt_of_le (own.lt b hb) bel.size, fun b k hk => (by cases hk), own.gl.mono hle⟩, frm, fun b ⟨k, hk⟩ => by cases hk⟩

theorem ECall.use [Gl] {f : FuncId} {args : List SV} {Good : SV → Prop} {h : Heap} {Q : SV → Heap → Prop} (hc : ECall P f args Good) (hq : ∀ r, Good r → Q r h) : Ab.Call P f args h Q := by
  refine Call.mono (Call.frame (h1 := []) (h2 := h) hc) fun r h' ⟨h1, e, hg, hn⟩ => ?_
  subst hn
  rw [e]
  exact hq r hg

theorem ECall.mono [Gl] {f : FuncId} {args : List SV} {G G' : SV → Prop} (hc : ECall P f args G) (h : ∀ r, G r → G' r) : ECall P f args G' := Call.mono hc fun r _ hr => ⟨h r hr.1, hr.2⟩
end

/-- The numeral of an integer. -/
def itoaS (n : Int) : ByteArray := ⟨(Lib.itoa n).toArray⟩
/-- What stands ahead of the first such byte, and behind it. -/
def cutI (s : ByteArray) (c : UInt8) : Nat := (Lib.indexByte s.data.toList c).toNat
def cutA (s : ByteArray) (c : UInt8) : ByteArray := if 0 ≤ Lib.indexByte s.data.toList c then s.extract 0 (cutI s c) else s
def cutB (s : ByteArray) (c : UInt8) : ByteArray := if 0 ≤ Lib.indexByte s.data.toList c then s.extract (cutI s c + 1) s.size else ⟨#[]⟩

theorem indexByte_le : ∀ (l : List UInt8) (c : UInt8), Lib.indexByte l c < l.length
  | [], c => by simp [Lib.indexByte]
  | b :: l, c => by
    have := indexByte_le l c
    unfold Lib.indexByte
    simp only [List.length_cons]
    split
    · omega
    · split <;> omega
end Go.Ab
namespace Go.Proofs.YtcbgkcjlechdnaaDoor
open Go Go.Ab

/-- The error variables hold something. -/
class ErrVars [Gl] : Prop where
  g4 : ∃ a b, Gl.gl 4 = .fp [.sc (.iface a b)]
  g5 : ∃ a b, Gl.gl 5 = .fp [.sc (.iface a b)]

variable [Gl] [Tabs] [ErrVars]

theorem var_of [Gl] {E : Env} {w : World} {g : Nat} {x : Value} (h : Gl.gl g = .fp [.sc x]) (hgl : GlOk E) (hsee : ∀ a v, E.see a v → w.cell? a = some v) : w.cell? ⟨g, 0, none⟩ = some x := by
  obtain ⟨h1, _⟩ := hgl g
  rw [h] at h1
  cases h1 with
  | fp _ _ _ val hv hr =>
    have h2 := hsee _ _ (hv 0 (by simp))
    have h3 := hr 0 (by simp)
    simp only [List.getD_cons_zero] at h3
    generalize val 0 = v at h2 h3
    cases h3
    exact h2

theorem fmtInt_c (n : Int) (h : In64 n) : PCall Tryd.prog 46 [I64 n, I64 10] (Str (itoaS n)) :=
  PCall.of_calls ⟨_, Tryd.func46, by kernel_rfl, by kernel_rfl⟩ fun w E vs h3 h4 h5 hr => by
    obtain rfl := reps2 hr
    refine (Tryd.strconv_FormatInt_10 n h.1 h.2 w (tabIs_of (g := 2) (by kernel_rfl) Tabs.g2 (by rw [Tabs.s2, Lib.pow10Tab_length]) h5 h3 h4)).mono fun e w' ⟨he, k, os, hw⟩ => ⟨_, he, fun _ => .sc _, ?_⟩
    rw [hw]
    exact Lib.below_grow _ w (Nat.le_refl _) k os

/-- What ParseInt hands back. -/
def PInt (s : ByteArray) (r : SV) : Prop := (∃ v, Lib.parseIntB 64 s.data.toList = .ok v ∧ r = .tup [I64 v, .sc .nilIface]) ∨ ((∀ v, Lib.parseIntB 64 s.data.toList ≠ .ok v) ∧ ∃ n a b, In64 n ∧ r = .tup [I64 n, .sc (.iface a b)])

theorem rep_ti {E : Env} (a b : Value) : Rep E (.tuple #[a, b]) (.tup [.sc a, .sc b]) := rep_tup2 a b

theorem parseInt_c (s : ByteArray) (hs : s.size ≤ 281474976710656) : ECall Tryd.prog 48 [Str s, I64 10, I64 64] (PInt s) :=
  ECall.of_calls ⟨_, Tryd.func48, by kernel_rfl, by kernel_rfl⟩ fun w E vs h3 h4 h5 hr => by
    obtain rfl := reps3 hr
    obtain ⟨a4, b4, e4⟩ := ErrVars.g4
    obtain ⟨a5, b5, e5⟩ := ErrVars.g5
    have v4 := var_of e4 h5 h3
    have v5 := var_of e5 h5 h3
    cases hp : Lib.parseIntB 64 s.data.toList with
    | ok v =>
      refine (Tryd.strconv_ParseInt_10_at64_ok s (by omega) v hp w).mono fun e w' ⟨he, hw⟩ => ⟨_, _, he, .inl ⟨v, hp, rfl⟩, fun _ => rep_ti _ _, ?_⟩
      rcases hw with rfl | ⟨t, rfl⟩
      · exact RowKit.Below.refl _ _
      · exact Joins.below_bytesWorld _ _ _ _ (Nat.le_refl _)
    | range =>
      refine (Tryd.strconv_ParseInt_10_at64_range s hs hp _ w v5 (.inr ⟨a5, b5, rfl⟩)).mono fun e w' ⟨N, he, _, _, bel⟩ => ⟨_, _, he, .inr ⟨fun v => by rw [hp]; simp, _, _, _, ?_, rfl⟩, fun _ => rep_ti _ _, bel⟩
      unfold Lib.intSat In64
      split <;> decide
    | _ =>
      refine (Any.strconv_ParseInt_10_at64_syntax Tryd.laysC174 s hs hp _ w v4 (.inr ⟨a4, b4, rfl⟩)).mono fun e w' ⟨N, he, _, _, bel⟩ => ⟨_, _, he, .inr ⟨fun v => by rw [hp]; simp, _, _, _, ?_, rfl⟩, fun _ => rep_ti _ _, bel⟩
      unfold In64
      decide

theorem indexByte_c (s : ByteArray) (c : UInt8) : PCall Tryd.prog 76 [Str s, .sc (.int .u8 (c.toNat : Nat))] (I64 (Lib.indexByte s.data.toList c)) :=
  PCall.of_calls ⟨_, Tryd.func76, by kernel_rfl, by kernel_rfl⟩ fun w E vs h3 h4 h5 hr => by
    obtain rfl := reps2 hr
    refine (Tryd.stringslite_IndexByte s (c.toNat : Nat) w).mono fun e w' ⟨he, hw⟩ => ⟨_, he, fun _ => ?_, by rw [hw]; exact RowKit.Below.refl _ _⟩
    have e : ((c.toNat : Nat) : Int).toNat.toUInt8 = c := by rw [Int.toNat_natCast]; simp
    rw [e]
    exact .sc _

set_option maxRecDepth 20000 in
theorem index_c (s : ByteArray) : PCall Tryd.prog 65 [Str s, Str ⟨#[47]⟩] (I64 (Lib.indexByte s.data.toList 47)) := by
  have ib := indexByte_c s 47
  refine Call.enter' (N := 143) (rs := [.tmp 4]) Tryd.func65 rfl rfl rfl (by decide) rfl ?_; simp only [argT]; have hD : (0 : Nat) = 0 := rfl
  repeat' first
    | (refine SW.seq_k fun K hK => ?_)
    | (refine SW.block ?_)
    | ((first
      | refine SW.region ?_
      | refine SW.regionD (Checked.mixed Tryd.checked) (by kernel_rfl) ?_
      | refine SW.cond ?_
      | refine SW.skip ?_
      | refine SW.exit ?_
      | refine SW.ret ?_
      | refine Call.of_pure (ib) ?_
      | refine ⟨_, ib, ?_⟩
      | (refine allF_i fun b hb => ?_; replace hD := And.intro hb hD; clear hb; simp only [fresh_cons, fresh_nil, and_true, ne_eq, neF] at hD)
      | simp only [appK, appOsK]); try simp only [go_sem, ↓reduceIte, reduceCtorEq, Nat.reduceAdd, Nat.reduceMul, Nat.reduceSub, Nat.reduceLT, Nat.reduceLeDiff, Nat.reduceEqDiff, Nat.reduceBEq, Nat.reduceBneDiff, Int.reduceToNat, Int.toNat_natCast, eq_self, decide_true, decide_false, Int.reduceEq, and_true, true_and, if_false_eq, if_true_eq, List.getElem?_cons_zero, List.getElem?_cons_succ, setAll, List.length_cons, List.length_nil, List.length_set, List.getD_cons_zero, List.getD_cons_succ, Nat.le_refl, Int.le_refl, Nat.beq_refl, or_self, true_or, or_true, List.drop_zero, hD])
    | (refine And.intro (by omega) ?_)
    | (refine ifI (fun hc => ?_) (fun hc => ?_) <;> first | (exfalso; omega) | skip)
    | (first | (apply hK; clear hK K) | (clear hK K; apply hK; clear hK K) | (clear hK K; clear hK K; apply hK; clear hK K) | (clear hK K; clear hK K; clear hK K; apply hK; clear hK K) | (clear hK K; clear hK K; clear hK K; clear hK K; apply hK; clear hK K) | (clear hK K; clear hK K; clear hK K; clear hK K; clear hK K; apply hK; clear hK K))
    | fail
  · refine ret_pure ?_; simp only [resL_tmp, resL_nil, tupOf, go_sem, ↓reduceIte, reduceCtorEq, Nat.reduceAdd, Nat.reduceMul, Nat.reduceSub, Nat.reduceLT, Nat.reduceLeDiff, Nat.reduceEqDiff, Nat.reduceBEq, Nat.reduceBneDiff, Int.reduceToNat, Int.toNat_natCast, eq_self, decide_true, decide_false, Int.reduceEq, and_true, true_and, if_false_eq, if_true_eq, List.getElem?_cons_zero, List.getElem?_cons_succ, setAll, List.length_cons, List.length_nil, List.length_set, List.getD_cons_zero, List.getD_cons_succ, Nat.le_refl, Int.le_refl, Nat.beq_refl, or_self, true_or, or_true, List.drop_zero, hD]
    have h : (⟨#[47]⟩ : ByteArray).toList = s.toList := eq_of_beq (by assumption)
    rw [ByteArray.toList_eq, ByteArray.toList_eq] at h
    rw [← h]
    rfl
  · refine ret_pure ?_; simp only [resL_tmp, resL_nil, tupOf, go_sem, ↓reduceIte, reduceCtorEq, Nat.reduceAdd, Nat.reduceMul, Nat.reduceSub, Nat.reduceLT, Nat.reduceLeDiff, Nat.reduceEqDiff, Nat.reduceBEq, Nat.reduceBneDiff, Int.reduceToNat, Int.toNat_natCast, eq_self, decide_true, decide_false, Int.reduceEq, and_true, true_and, if_false_eq, if_true_eq, List.getElem?_cons_zero, List.getElem?_cons_succ, setAll, List.length_cons, List.length_nil, List.length_set, List.getD_cons_zero, List.getD_cons_succ, Nat.le_refl, Int.le_refl, Nat.beq_refl, or_self, true_or, or_true, List.drop_zero, hD]

set_option maxRecDepth 20000 in
theorem cut0_c (s : ByteArray) (hs : s.size ≤ 9223372036854775807) : PCall Tryd.prog 57 [Str s, Str ⟨#[47]⟩] (.tup [Str (cutA s 47), Str (cutB s 47), SB (decide (0 ≤ Lib.indexByte s.data.toList 47))]) := by
  have ix := index_c s
  have hlt := indexByte_le s.data.toList 47
  have hsz : s.data.toList.length = s.size := Array.length_toList
  rw [hsz] at hlt
  unfold cutA cutB cutI
  generalize Lib.indexByte s.data.toList 47 = i at *
  by_cases h0 : 0 ≤ i
  · rw [if_pos h0, if_pos h0]
    have e1 : IntKind.i64.wrap (i + ((1 : Nat) : Int)) = i + 1 := i64_wrap (by omega) (by omega)
    have e2 : (i + 1).toNat = i.toNat + 1 := by omega
    refine Call.enter' (N := 23) (rs := [.tmp 4, .tmp 5, .tmp 6]) Tryd.func57 rfl rfl rfl (by decide) rfl ?_; simp only [argT]; have hD : (0 : Nat) = 0 := rfl
    repeat' first
      | (refine SW.seq_k fun K hK => ?_)
      | (refine SW.block ?_)
      | ((first
      | refine SW.region ?_
      | refine SW.regionZ (id := 3) (Checked.mixed Tryd.checked) ((.one 0 [0, 2, 9, 10, 11] (.one 1 [1, 2, 9, 10, 11] (.one 2 [2, 9, 10, 11] (.one 3 [3, 8, 10, 11] (.one 4 [4, 7, 8, 10, 11] (.one 5 [5, 6, 7, 8, 10, 11] (.one 6 [6, 7, 8, 10, 11] (.one 7 [7, 8, 10, 11] (.one 8 [8, 10, 11] (.one 9 [9, 10, 11] (.one 10 [10, 11] (.one 11 [11] .done)))))))))))) : OZ) (by kernel_rfl) ?_
      | refine SW.regionD (Checked.mixed Tryd.checked) (by kernel_rfl) ?_
      | refine SW.cond ?_
      | refine SW.skip ?_
      | refine SW.exit ?_
      | refine SW.ret ?_
      | refine Call.of_pure (ix) ?_
      | refine ⟨_, ix, ?_⟩
      | (refine allF_i fun b hb => ?_; replace hD := And.intro hb hD; clear hb; simp only [fresh_cons, fresh_nil, and_true, ne_eq, neF] at hD)
      | simp only [appK, appOsK]); try simp only [go_sem, ↓reduceIte, reduceCtorEq, Nat.reduceAdd, Nat.reduceMul, Nat.reduceSub, Nat.reduceLT, Nat.reduceLeDiff, Nat.reduceEqDiff, Nat.reduceBEq, Nat.reduceBneDiff, Int.reduceToNat, Int.toNat_natCast, eq_self, decide_true, decide_false, Int.reduceEq, and_true, true_and, if_false_eq, if_true_eq, List.getElem?_cons_zero, List.getElem?_cons_succ, setAll, List.length_cons, List.length_nil, List.length_set, List.getD_cons_zero, List.getD_cons_succ, Nat.le_refl, Int.le_refl, Nat.beq_refl, or_self, true_or, or_true, List.drop_zero, hD, h0, e1, e2])
      | (refine And.intro (by omega) ?_)
      | (refine ifI (fun hc => ?_) (fun hc => ?_) <;> first | (exfalso; omega) | skip)
      | (first | (apply hK; clear hK K) | (clear hK K; apply hK; clear hK K) | (clear hK K; clear hK K; apply hK; clear hK K) | (clear hK K; clear hK K; clear hK K; apply hK; clear hK K) | (clear hK K; clear hK K; clear hK K; clear hK K; apply hK; clear hK K) | (clear hK K; clear hK K; clear hK K; clear hK K; clear hK K; apply hK; clear hK K))
      | (refine And.intro ?_ ?_)
      | fail
    refine ret_pure ?_; simp only [resL_tmp, resL_nil, tupOf, go_sem, ↓reduceIte, reduceCtorEq, Nat.reduceAdd, Nat.reduceMul, Nat.reduceSub, Nat.reduceLT, Nat.reduceLeDiff, Nat.reduceEqDiff, Nat.reduceBEq, Nat.reduceBneDiff, Int.reduceToNat, Int.toNat_natCast, eq_self, decide_true, decide_false, Int.reduceEq, and_true, true_and, if_false_eq, if_true_eq, List.getElem?_cons_zero, List.getElem?_cons_succ, setAll, List.length_cons, List.length_nil, List.length_set, List.getD_cons_zero, List.getD_cons_succ, Nat.le_refl, Int.le_refl, Nat.beq_refl, or_self, true_or, or_true, List.drop_zero, hD]
  · rw [if_neg h0, if_neg h0]
    refine Call.enter' (N := 23) (rs := [.tmp 4, .tmp 5, .tmp 6]) Tryd.func57 rfl rfl rfl (by decide) rfl ?_; simp only [argT]; have hD : (0 : Nat) = 0 := rfl
    repeat' first
      | (refine SW.seq_k fun K hK => ?_)
      | (refine SW.block ?_)
      | ((first
      | refine SW.region ?_
      | refine SW.regionD (Checked.mixed Tryd.checked) (by kernel_rfl) ?_
      | refine SW.cond ?_
      | refine SW.skip ?_
      | refine SW.exit ?_
      | refine SW.ret ?_
      | refine Call.of_pure (ix) ?_
      | refine ⟨_, ix, ?_⟩
      | (refine allF_i fun b hb => ?_; replace hD := And.intro hb hD; clear hb; simp only [fresh_cons, fresh_nil, and_true, ne_eq, neF] at hD)
      | simp only [appK, appOsK]); try simp only [go_sem, ↓reduceIte, reduceCtorEq, Nat.reduceAdd, Nat.reduceMul, Nat.reduceSub, Nat.reduceLT, Nat.reduceLeDiff, Nat.reduceEqDiff, Nat.reduceBEq, Nat.reduceBneDiff, Int.reduceToNat, Int.toNat_natCast, eq_self, decide_true, decide_false, Int.reduceEq, and_true, true_and, if_false_eq, if_true_eq, List.getElem?_cons_zero, List.getElem?_cons_succ, setAll, List.length_cons, List.length_nil, List.length_set, List.getD_cons_zero, List.getD_cons_succ, Nat.le_refl, Int.le_refl, Nat.beq_refl, or_self, true_or, or_true, List.drop_zero, hD, h0])
      | (refine And.intro (by omega) ?_)
      | (refine ifI (fun hc => ?_) (fun hc => ?_) <;> first | (exfalso; omega) | skip)
      | (first | (apply hK; clear hK K) | (clear hK K; apply hK; clear hK K) | (clear hK K; clear hK K; apply hK; clear hK K) | (clear hK K; clear hK K; clear hK K; apply hK; clear hK K) | (clear hK K; clear hK K; clear hK K; clear hK K; apply hK; clear hK K) | (clear hK K; clear hK K; clear hK K; clear hK K; clear hK K; apply hK; clear hK K))
      | fail
    refine ret_pure ?_; simp only [resL_tmp, resL_nil, tupOf, go_sem, ↓reduceIte, reduceCtorEq, Nat.reduceAdd, Nat.reduceMul, Nat.reduceSub, Nat.reduceLT, Nat.reduceLeDiff, Nat.reduceEqDiff, Nat.reduceBEq, Nat.reduceBneDiff, Int.reduceToNat, Int.toNat_natCast, eq_self, decide_true, decide_false, Int.reduceEq, and_true, true_and, if_false_eq, if_true_eq, List.getElem?_cons_zero, List.getElem?_cons_succ, setAll, List.length_cons, List.length_nil, List.length_set, List.getD_cons_zero, List.getD_cons_succ, Nat.le_refl, Int.le_refl, Nat.beq_refl, or_self, true_or, or_true, List.drop_zero, hD]

set_option maxRecDepth 20000 in
theorem cut_c (s : ByteArray) (hs : s.size ≤ 9223372036854775807) : PCall Tryd.prog 47 [Str s, Str ⟨#[47]⟩] (.tup [Str (cutA s 47), Str (cutB s 47), SB (decide (0 ≤ Lib.indexByte s.data.toList 47))]) := by
  have ct := cut0_c s hs
  refine Call.enter' (N := 13) (rs := [.tmp 4, .tmp 5, .tmp 6]) Tryd.func47 rfl rfl rfl (by decide) rfl ?_; simp only [argT]; have hD : (0 : Nat) = 0 := rfl
  repeat' first
    | (refine SW.seq_k fun K hK => ?_)
    | (refine SW.block ?_)
    | ((first
      | refine SW.region ?_
      | refine SW.regionD (Checked.mixed Tryd.checked) (by kernel_rfl) ?_
      | refine SW.cond ?_
      | refine SW.skip ?_
      | refine SW.exit ?_
      | refine SW.ret ?_
      | refine Call.of_pure (ct) ?_
      | refine ⟨_, ct, ?_⟩
      | (refine allF_i fun b hb => ?_; replace hD := And.intro hb hD; clear hb; simp only [fresh_cons, fresh_nil, and_true, ne_eq, neF] at hD)
      | simp only [appK, appOsK]); try simp only [go_sem, ↓reduceIte, reduceCtorEq, Nat.reduceAdd, Nat.reduceMul, Nat.reduceSub, Nat.reduceLT, Nat.reduceLeDiff, Nat.reduceEqDiff, Nat.reduceBEq, Nat.reduceBneDiff, Int.reduceToNat, Int.toNat_natCast, eq_self, decide_true, decide_false, Int.reduceEq, and_true, true_and, if_false_eq, if_true_eq, List.getElem?_cons_zero, List.getElem?_cons_succ, setAll, List.length_cons, List.length_nil, List.length_set, List.getD_cons_zero, List.getD_cons_succ, Nat.le_refl, Int.le_refl, Nat.beq_refl, or_self, true_or, or_true, List.drop_zero, hD])
    | (refine And.intro (by omega) ?_)
    | (refine ifI (fun hc => ?_) (fun hc => ?_) <;> first | (exfalso; omega) | skip)
    | (first | (apply hK; clear hK K) | (clear hK K; apply hK; clear hK K) | (clear hK K; clear hK K; apply hK; clear hK K) | (clear hK K; clear hK K; clear hK K; apply hK; clear hK K) | (clear hK K; clear hK K; clear hK K; clear hK K; apply hK; clear hK K) | (clear hK K; clear hK K; clear hK K; clear hK K; clear hK K; apply hK; clear hK K))
    | fail
  refine ret_pure ?_; simp only [resL_tmp, resL_nil, tupOf, go_sem, ↓reduceIte, reduceCtorEq, Nat.reduceAdd, Nat.reduceMul, Nat.reduceSub, Nat.reduceLT, Nat.reduceLeDiff, Nat.reduceEqDiff, Nat.reduceBEq, Nat.reduceBneDiff, Int.reduceToNat, Int.toNat_natCast, eq_self, decide_true, decide_false, Int.reduceEq, and_true, true_and, if_false_eq, if_true_eq, List.getElem?_cons_zero, List.getElem?_cons_succ, setAll, List.length_cons, List.length_nil, List.length_set, List.getD_cons_zero, List.getD_cons_succ, Nat.le_refl, Int.le_refl, Nat.beq_refl, or_self, true_or, or_true, List.drop_zero, hD]

/-- The text of a fraction. -/
def fmtS (n d : Int) : ByteArray := if 1 < d then itoaS n ++ (⟨#[47]⟩ ++ itoaS d) else itoaS n
/-- Format. -/
def fmtR (n d : Int) : ByteArray × Int := if okR n d = true then (fmtS n d, 0) else (⟨#[]⟩, 1)

theorem itoaS_size (n : Int) (h : In64 n) : (itoaS n).size ≤ 21 := by
  show (Lib.itoa n).toArray.size ≤ 21
  rw [List.size_toArray]
  rcases Int.lt_or_le n 0 with h0 | h0
  · have e : n = -((n.natAbs : Nat) : Int) := by omega
    rw [e, Lib.itoa_neg _ (by omega), List.length_cons, Lib.decDigits_length]
    have := Lib.nDigits_le20 n.natAbs (by unfold In64 at h; omega)
    omega
  · have e : n = ((n.natAbs : Nat) : Int) := by omega
    rw [e, Lib.itoa_nonneg, Lib.decDigits_length]
    have := Lib.nDigits_le20 n.natAbs (by unfold In64 at h; omega)
    omega

set_option maxRecDepth 20000 in
theorem format_p (n d : Int) (hn : In64 n) (hd : In64 d) : PCall Tryd.prog 26 [.agg [I64 n, I64 d]] (.tup [Str (fmtR n d).1, I64 (fmtR n d).2]) := by
  have v := valid_p n d hn.1 hn.2 hd.1 hd.2
  have f1 := fmtInt_c n hn
  have f2 := fmtInt_c d hd
  have s1 := itoaS_size n hn
  have s2 := itoaS_size d hd
  cases hv : okR n d with
  | false =>
    rw [hv] at v
    have e : fmtR n d = (⟨#[]⟩, 1) := by rw [fmtR, if_neg (by rw [hv]; simp)]
    rw [e]
    refine Call.enter' (N := 21) (rs := [.tmp 2, .tmp 3]) Tryd.func26 rfl rfl rfl (by decide) rfl ?_; simp only [argT]; have hD : (0 : Nat) = 0 := rfl
    repeat' first
      | (refine SW.seq_k fun K hK => ?_)
      | (refine SW.block ?_)
      | ((first
      | refine SW.region ?_
      | refine SW.regionD (Checked.mixed Tryd.checked) (by kernel_rfl) ?_
      | refine SW.cond ?_
      | refine SW.skip ?_
      | refine SW.exit ?_
      | refine SW.ret ?_
      | refine Call.of_pure (v) ?_
      | refine ⟨_, v, ?_⟩
      | (refine allF_i fun b hb => ?_; replace hD := And.intro hb hD; clear hb; simp only [fresh_cons, fresh_nil, and_true, ne_eq, neF] at hD)
      | simp only [appK, appOsK]); try simp only [go_sem, ↓reduceIte, reduceCtorEq, Nat.reduceAdd, Nat.reduceMul, Nat.reduceSub, Nat.reduceLT, Nat.reduceLeDiff, Nat.reduceEqDiff, Nat.reduceBEq, Nat.reduceBneDiff, Int.reduceToNat, Int.toNat_natCast, eq_self, decide_true, decide_false, Int.reduceEq, and_true, true_and, if_false_eq, if_true_eq, List.getElem?_cons_zero, List.getElem?_cons_succ, setAll, List.length_cons, List.length_nil, List.length_set, List.getD_cons_zero, List.getD_cons_succ, Nat.le_refl, Int.le_refl, Nat.beq_refl, or_self, true_or, or_true, List.drop_zero, hD])
      | (refine And.intro (by omega) ?_)
      | (refine ifI (fun hc => ?_) (fun hc => ?_) <;> first | (exfalso; omega) | skip)
      | (first | (apply hK; clear hK K) | (clear hK K; apply hK; clear hK K) | (clear hK K; clear hK K; apply hK; clear hK K) | (clear hK K; clear hK K; clear hK K; apply hK; clear hK K) | (clear hK K; clear hK K; clear hK K; clear hK K; apply hK; clear hK K) | (clear hK K; clear hK K; clear hK K; clear hK K; clear hK K; apply hK; clear hK K))
      | fail
    refine ret_pure ?_; simp only [resL_tmp, resL_nil, tupOf, go_sem, ↓reduceIte, reduceCtorEq, Nat.reduceAdd, Nat.reduceMul, Nat.reduceSub, Nat.reduceLT, Nat.reduceLeDiff, Nat.reduceEqDiff, Nat.reduceBEq, Nat.reduceBneDiff, Int.reduceToNat, Int.toNat_natCast, eq_self, decide_true, decide_false, Int.reduceEq, and_true, true_and, if_false_eq, if_true_eq, List.getElem?_cons_zero, List.getElem?_cons_succ, setAll, List.length_cons, List.length_nil, List.length_set, List.getD_cons_zero, List.getD_cons_succ, Nat.le_refl, Int.le_refl, Nat.beq_refl, or_self, true_or, or_true, List.drop_zero, hD]
  | true =>
    rw [hv] at v
    have e : fmtR n d = (fmtS n d, 0) := by rw [fmtR, if_pos hv]
    rw [e]
    clear e
    unfold fmtS
    by_cases h1 : 1 < d
    · rw [if_pos h1]
      refine Call.enter' (N := 21) (rs := [.tmp 2, .tmp 3]) Tryd.func26 rfl rfl rfl (by decide) rfl ?_; simp only [argT]; have hD : (0 : Nat) = 0 := rfl
      repeat' first
        | (refine SW.seq_k fun K hK => ?_)
        | (refine SW.block ?_)
        | ((first
      | refine SW.region ?_
      | refine SW.regionD (Checked.mixed Tryd.checked) (by kernel_rfl) ?_
      | refine SW.cond ?_
      | refine SW.skip ?_
      | refine SW.exit ?_
      | refine SW.ret ?_
      | refine Call.of_pure (v) ?_
      | refine ⟨_, v, ?_⟩
      | refine Call.of_pure (f1) ?_
      | refine ⟨_, f1, ?_⟩
      | refine Call.of_pure (f2) ?_
      | refine ⟨_, f2, ?_⟩
      | (refine allF_i fun b hb => ?_; replace hD := And.intro hb hD; clear hb; simp only [fresh_cons, fresh_nil, and_true, ne_eq, neF] at hD)
      | simp only [appK, appOsK]); try simp only [go_sem, ↓reduceIte, reduceCtorEq, Nat.reduceAdd, Nat.reduceMul, Nat.reduceSub, Nat.reduceLT, Nat.reduceLeDiff, Nat.reduceEqDiff, Nat.reduceBEq, Nat.reduceBneDiff, Int.reduceToNat, Int.toNat_natCast, eq_self, decide_true, decide_false, Int.reduceEq, and_true, true_and, if_false_eq, if_true_eq, List.getElem?_cons_zero, List.getElem?_cons_succ, setAll, List.length_cons, List.length_nil, List.length_set, List.getD_cons_zero, List.getD_cons_succ, Nat.le_refl, Int.le_refl, Nat.beq_refl, or_self, true_or, or_true, List.drop_zero, hD, h1])
        | (refine And.intro (by omega) ?_)
        | (refine ifI (fun hc => ?_) (fun hc => ?_) <;> first | (exfalso; omega) | skip)
        | (first | (apply hK; clear hK K) | (clear hK K; apply hK; clear hK K) | (clear hK K; clear hK K; apply hK; clear hK K) | (clear hK K; clear hK K; clear hK K; apply hK; clear hK K) | (clear hK K; clear hK K; clear hK K; clear hK K; apply hK; clear hK K) | (clear hK K; clear hK K; clear hK K; clear hK K; clear hK K; apply hK; clear hK K))
        | fail
      refine ret_pure ?_; simp only [resL_tmp, resL_nil, tupOf, go_sem, ↓reduceIte, reduceCtorEq, Nat.reduceAdd, Nat.reduceMul, Nat.reduceSub, Nat.reduceLT, Nat.reduceLeDiff, Nat.reduceEqDiff, Nat.reduceBEq, Nat.reduceBneDiff, Int.reduceToNat, Int.toNat_natCast, eq_self, decide_true, decide_false, Int.reduceEq, and_true, true_and, if_false_eq, if_true_eq, List.getElem?_cons_zero, List.getElem?_cons_succ, setAll, List.length_cons, List.length_nil, List.length_set, List.getD_cons_zero, List.getD_cons_succ, Nat.le_refl, Int.le_refl, Nat.beq_refl, or_self, true_or, or_true, List.drop_zero, hD]
    · rw [if_neg h1]
      refine Call.enter' (N := 21) (rs := [.tmp 2, .tmp 3]) Tryd.func26 rfl rfl rfl (by decide) rfl ?_; simp only [argT]; have hD : (0 : Nat) = 0 := rfl
      repeat' first
        | (refine SW.seq_k fun K hK => ?_)
        | (refine SW.block ?_)
        | ((first
      | refine SW.region ?_
      | refine SW.regionD (Checked.mixed Tryd.checked) (by kernel_rfl) ?_
      | refine SW.cond ?_
      | refine SW.skip ?_
      | refine SW.exit ?_
      | refine SW.ret ?_
      | refine Call.of_pure (v) ?_
      | refine ⟨_, v, ?_⟩
      | refine Call.of_pure (f1) ?_
      | refine ⟨_, f1, ?_⟩
      | refine Call.of_pure (f2) ?_
      | refine ⟨_, f2, ?_⟩
      | (refine allF_i fun b hb => ?_; replace hD := And.intro hb hD; clear hb; simp only [fresh_cons, fresh_nil, and_true, ne_eq, neF] at hD)
      | simp only [appK, appOsK]); try simp only [go_sem, ↓reduceIte, reduceCtorEq, Nat.reduceAdd, Nat.reduceMul, Nat.reduceSub, Nat.reduceLT, Nat.reduceLeDiff, Nat.reduceEqDiff, Nat.reduceBEq, Nat.reduceBneDiff, Int.reduceToNat, Int.toNat_natCast, eq_self, decide_true, decide_false, Int.reduceEq, and_true, true_and, if_false_eq, if_true_eq, List.getElem?_cons_zero, List.getElem?_cons_succ, setAll, List.length_cons, List.length_nil, List.length_set, List.getD_cons_zero, List.getD_cons_succ, Nat.le_refl, Int.le_refl, Nat.beq_refl, or_self, true_or, or_true, List.drop_zero, hD, h1])
        | (refine And.intro (by omega) ?_)
        | (refine ifI (fun hc => ?_) (fun hc => ?_) <;> first | (exfalso; omega) | skip)
        | (first | (apply hK; clear hK K) | (clear hK K; apply hK; clear hK K) | (clear hK K; clear hK K; apply hK; clear hK K) | (clear hK K; clear hK K; clear hK K; apply hK; clear hK K) | (clear hK K; clear hK K; clear hK K; clear hK K; apply hK; clear hK K) | (clear hK K; clear hK K; clear hK K; clear hK K; clear hK K; apply hK; clear hK K))
        | fail
      refine ret_pure ?_; simp only [resL_tmp, resL_nil, tupOf, go_sem, ↓reduceIte, reduceCtorEq, Nat.reduceAdd, Nat.reduceMul, Nat.reduceSub, Nat.reduceLT, Nat.reduceLeDiff, Nat.reduceEqDiff, Nat.reduceBEq, Nat.reduceBneDiff, Int.reduceToNat, Int.toNat_natCast, eq_self, decide_true, decide_false, Int.reduceEq, and_true, true_and, if_false_eq, if_true_eq, List.getElem?_cons_zero, List.getElem?_cons_succ, setAll, List.length_cons, List.length_nil, List.length_set, List.getD_cons_zero, List.getD_cons_succ, Nat.le_refl, Int.le_refl, Nat.beq_refl, or_self, true_or, or_true, List.drop_zero, hD]

set_option maxRecDepth 20000 in
theorem format_r (n d : Int) (hn : In64 n) (hd : In64 d) : PCall Tryd.prog 27 [.agg [I64 n, I64 d]] (.tup [Str (fmtR n d).1, I64 (fmtR n d).2]) := by
  have v := valid_r n d hn.1 hn.2 hd.1 hd.2
  have f1 := fmtInt_c n hn
  have f2 := fmtInt_c d hd
  have s1 := itoaS_size n hn
  have s2 := itoaS_size d hd
  cases hv : okR n d with
  | false =>
    rw [hv] at v
    have e : fmtR n d = (⟨#[]⟩, 1) := by rw [fmtR, if_neg (by rw [hv]; simp)]
    rw [e]
    refine Call.enter' (N := 21) (rs := [.tmp 2, .tmp 3]) Tryd.func27 rfl rfl rfl (by decide) rfl ?_; simp only [argT]; have hD : (0 : Nat) = 0 := rfl
    repeat' first
      | (refine SW.seq_k fun K hK => ?_)
      | (refine SW.block ?_)
      | ((first
      | refine SW.region ?_
      | refine SW.regionD (Checked.mixed Tryd.checked) (by kernel_rfl) ?_
      | refine SW.cond ?_
      | refine SW.skip ?_
      | refine SW.exit ?_
      | refine SW.ret ?_
      | refine Call.of_pure (v) ?_
      | refine ⟨_, v, ?_⟩
      | (refine allF_i fun b hb => ?_; replace hD := And.intro hb hD; clear hb; simp only [fresh_cons, fresh_nil, and_true, ne_eq, neF] at hD)
      | simp only [appK, appOsK]); try simp only [go_sem, ↓reduceIte, reduceCtorEq, Nat.reduceAdd, Nat.reduceMul, Nat.reduceSub, Nat.reduceLT, Nat.reduceLeDiff, Nat.reduceEqDiff, Nat.reduceBEq, Nat.reduceBneDiff, Int.reduceToNat, Int.toNat_natCast, eq_self, decide_true, decide_false, Int.reduceEq, and_true, true_and, if_false_eq, if_true_eq, List.getElem?_cons_zero, List.getElem?_cons_succ, setAll, List.length_cons, List.length_nil, List.length_set, List.getD_cons_zero, List.getD_cons_succ, Nat.le_refl, Int.le_refl, Nat.beq_refl, or_self, true_or, or_true, List.drop_zero, hD])
      | (refine And.intro (by omega) ?_)
      | (refine ifI (fun hc => ?_) (fun hc => ?_) <;> first | (exfalso; omega) | skip)
      | (first | (apply hK; clear hK K) | (clear hK K; apply hK; clear hK K) | (clear hK K; clear hK K; apply hK; clear hK K) | (clear hK K; clear hK K; clear hK K; apply hK; clear hK K) | (clear hK K; clear hK K; clear hK K; clear hK K; apply hK; clear hK K) | (clear hK K; clear hK K; clear hK K; clear hK K; clear hK K; apply hK; clear hK K))
      | fail
    refine ret_pure ?_; simp only [resL_tmp, resL_nil, tupOf, go_sem, ↓reduceIte, reduceCtorEq, Nat.reduceAdd, Nat.reduceMul, Nat.reduceSub, Nat.reduceLT, Nat.reduceLeDiff, Nat.reduceEqDiff, Nat.reduceBEq, Nat.reduceBneDiff, Int.reduceToNat, Int.toNat_natCast, eq_self, decide_true, decide_false, Int.reduceEq, and_true, true_and, if_false_eq, if_true_eq, List.getElem?_cons_zero, List.getElem?_cons_succ, setAll, List.length_cons, List.length_nil, List.length_set, List.getD_cons_zero, List.getD_cons_succ, Nat.le_refl, Int.le_refl, Nat.beq_refl, or_self, true_or, or_true, List.drop_zero, hD]
  | true =>
    rw [hv] at v
    have e : fmtR n d = (fmtS n d, 0) := by rw [fmtR, if_pos hv]
    rw [e]
    clear e
    have hd0 := okR_den hv
    unfold fmtS
    by_cases h1 : d = 1
    · rw [if_neg (by omega)]
      subst h1
      refine Call.enter' (N := 21) (rs := [.tmp 2, .tmp 3]) Tryd.func27 rfl rfl rfl (by decide) rfl ?_; simp only [argT]; have hD : (0 : Nat) = 0 := rfl
      repeat' first
        | (refine SW.seq_k fun K hK => ?_)
        | (refine SW.block ?_)
        | ((first
      | refine SW.region ?_
      | refine SW.regionD (Checked.mixed Tryd.checked) (by kernel_rfl) ?_
      | refine SW.cond ?_
      | refine SW.skip ?_
      | refine SW.exit ?_
      | refine SW.ret ?_
      | refine Call.of_pure (v) ?_
      | refine ⟨_, v, ?_⟩
      | refine Call.of_pure (f1) ?_
      | refine ⟨_, f1, ?_⟩
      | refine Call.of_pure (f2) ?_
      | refine ⟨_, f2, ?_⟩
      | (refine allF_i fun b hb => ?_; replace hD := And.intro hb hD; clear hb; simp only [fresh_cons, fresh_nil, and_true, ne_eq, neF] at hD)
      | simp only [appK, appOsK]); try simp only [go_sem, ↓reduceIte, reduceCtorEq, Nat.reduceAdd, Nat.reduceMul, Nat.reduceSub, Nat.reduceLT, Nat.reduceLeDiff, Nat.reduceEqDiff, Nat.reduceBEq, Nat.reduceBneDiff, Int.reduceToNat, Int.toNat_natCast, eq_self, decide_true, decide_false, Int.reduceEq, and_true, true_and, if_false_eq, if_true_eq, List.getElem?_cons_zero, List.getElem?_cons_succ, setAll, List.length_cons, List.length_nil, List.length_set, List.getD_cons_zero, List.getD_cons_succ, Nat.le_refl, Int.le_refl, Nat.beq_refl, or_self, true_or, or_true, List.drop_zero, hD])
        | (refine And.intro (by omega) ?_)
        | (refine ifI (fun hc => ?_) (fun hc => ?_) <;> first | (exfalso; omega) | skip)
        | (first | (apply hK; clear hK K) | (clear hK K; apply hK; clear hK K) | (clear hK K; clear hK K; apply hK; clear hK K) | (clear hK K; clear hK K; clear hK K; apply hK; clear hK K) | (clear hK K; clear hK K; clear hK K; clear hK K; apply hK; clear hK K) | (clear hK K; clear hK K; clear hK K; clear hK K; clear hK K; apply hK; clear hK K))
        | fail
      refine ret_pure ?_; simp only [resL_tmp, resL_nil, tupOf, go_sem, ↓reduceIte, reduceCtorEq, Nat.reduceAdd, Nat.reduceMul, Nat.reduceSub, Nat.reduceLT, Nat.reduceLeDiff, Nat.reduceEqDiff, Nat.reduceBEq, Nat.reduceBneDiff, Int.reduceToNat, Int.toNat_natCast, eq_self, decide_true, decide_false, Int.reduceEq, and_true, true_and, if_false_eq, if_true_eq, List.getElem?_cons_zero, List.getElem?_cons_succ, setAll, List.length_cons, List.length_nil, List.length_set, List.getD_cons_zero, List.getD_cons_succ, Nat.le_refl, Int.le_refl, Nat.beq_refl, or_self, true_or, or_true, List.drop_zero, hD]
    · rw [if_pos (by omega)]
      refine Call.enter' (N := 21) (rs := [.tmp 2, .tmp 3]) Tryd.func27 rfl rfl rfl (by decide) rfl ?_; simp only [argT]; have hD : (0 : Nat) = 0 := rfl
      repeat' first
        | (refine SW.seq_k fun K hK => ?_)
        | (refine SW.block ?_)
        | ((first
      | refine SW.region ?_
      | refine SW.regionD (Checked.mixed Tryd.checked) (by kernel_rfl) ?_
      | refine SW.cond ?_
      | refine SW.skip ?_
      | refine SW.exit ?_
      | refine SW.ret ?_
      | refine Call.of_pure (v) ?_
      | refine ⟨_, v, ?_⟩
      | refine Call.of_pure (f1) ?_
      | refine ⟨_, f1, ?_⟩
      | refine Call.of_pure (f2) ?_
      | refine ⟨_, f2, ?_⟩
      | (refine allF_i fun b hb => ?_; replace hD := And.intro hb hD; clear hb; simp only [fresh_cons, fresh_nil, and_true, ne_eq, neF] at hD)
      | simp only [appK, appOsK]); try simp only [go_sem, ↓reduceIte, reduceCtorEq, Nat.reduceAdd, Nat.reduceMul, Nat.reduceSub, Nat.reduceLT, Nat.reduceLeDiff, Nat.reduceEqDiff, Nat.reduceBEq, Nat.reduceBneDiff, Int.reduceToNat, Int.toNat_natCast, eq_self, decide_true, decide_false, Int.reduceEq, and_true, true_and, if_false_eq, if_true_eq, List.getElem?_cons_zero, List.getElem?_cons_succ, setAll, List.length_cons, List.length_nil, List.length_set, List.getD_cons_zero, List.getD_cons_succ, Nat.le_refl, Int.le_refl, Nat.beq_refl, or_self, true_or, or_true, List.drop_zero, hD, h1])
        | (refine And.intro (by omega) ?_)
        | (refine ifI (fun hc => ?_) (fun hc => ?_) <;> first | (exfalso; omega) | skip)
        | (first | (apply hK; clear hK K) | (clear hK K; apply hK; clear hK K) | (clear hK K; clear hK K; apply hK; clear hK K) | (clear hK K; clear hK K; clear hK K; apply hK; clear hK K) | (clear hK K; clear hK K; clear hK K; clear hK K; apply hK; clear hK K) | (clear hK K; clear hK K; clear hK K; clear hK K; clear hK K; apply hK; clear hK K))
        | fail
      refine ret_pure ?_; simp only [resL_tmp, resL_nil, tupOf, go_sem, ↓reduceIte, reduceCtorEq, Nat.reduceAdd, Nat.reduceMul, Nat.reduceSub, Nat.reduceLT, Nat.reduceLeDiff, Nat.reduceEqDiff, Nat.reduceBEq, Nat.reduceBneDiff, Int.reduceToNat, Int.toNat_natCast, eq_self, decide_true, decide_false, Int.reduceEq, and_true, true_and, if_false_eq, if_true_eq, List.getElem?_cons_zero, List.getElem?_cons_succ, setAll, List.length_cons, List.length_nil, List.length_set, List.getD_cons_zero, List.getD_cons_succ, Nat.le_refl, Int.le_refl, Nat.beq_refl, or_self, true_or, or_true, List.drop_zero, hD]
      rw [ByteArray.append_assoc]
end Go.Proofs.YtcbgkcjlechdnaaDoor
