/- Contracts: a list is the list of minimal transversals; keys and antikeys certify one another. -/
import Derived.Test.YtmcmphmhjikgkaaDoorV5
set_option linter.unusedSimpArgs false
set_option linter.unusedVariables false
set_option linter.unusedSectionVars false
namespace Go.Ab.A20
open Go Go.Ab
/-- A set of sets as a map. -/
def mS (S : List Nat) : List (Value × Value) := S.map fun (s : Nat) => (Value.int .u32 ((s : Nat) : Int), Value.bool true)
theorem mf_out {a : Nat} : ∀ {S : List Nat} (i : Nat), a ∉ S → mfI (.i .u32) (.int .u32 (a : Int)) (mS S) i = some none
  | [], i, _ => rfl
  | s :: S, i, h => by
    have h1 : ¬ ((a : Nat) : Int) = ((s : Nat) : Int) := fun e => h (by rw [show a = s by omega]; exact List.mem_cons_self)
    unfold mS
    rw [List.map_cons, mfI]
    have : sameC (.i .u32) (.int .u32 ((a : Nat) : Int)) (.int .u32 ((s : Nat) : Int)) = some false := by
      show (if IntKind.u32 = IntKind.u32 then some (((a : Nat) : Int) == ((s : Nat) : Int)) else none) = some false
      rw [if_pos rfl, beq_eq_false_iff_ne.2 h1]
    rw [this]
    exact mf_out (i + 1) (fun x => h (List.mem_cons_of_mem _ x))
theorem mf_head {a : Nat} {S : List Nat} : mfI (.i .u32) (.int .u32 (a : Int)) (mS (a :: S)) 0 = some (some (0, .bool true)) := by
  unfold mS
  rw [List.map_cons, mfI]
  have : sameC (.i .u32) (.int .u32 ((a : Nat) : Int)) (.int .u32 ((a : Nat) : Int)) = some true := by
    show (if IntKind.u32 = IntKind.u32 then some (((a : Nat) : Int) == ((a : Nat) : Int)) else none) = some true
    rw [if_pos rfl, beq_self_eq_true]
  rw [this]
theorem mset_new (S : List Nat) (a : Nat) : mset (.int .u32 (a : Int)) (.bool true) (mS S) none = mS (S ++ [a]) := by
  unfold mset mS
  simp
theorem mdel_head (S : List Nat) (a : Nat) (v : Value) : mdel (mS (a :: S)) (some (0, v)) = mS S := rfl
/-- The list is the one of the minimal transversals. -/
theorem traL_min (R : List Nat) (hR : Sm R) : ((traL R).Pairwise fun a b => keyN a < keyN b) ∧ ∀ t, t ∈ traL R ↔ MinTr R t := by
  rcases List.eq_nil_or_concat R with rfl | ⟨r, e, he⟩
  · refine And.intro (List.pairwise_singleton _ _) fun t => ?_
    show t ∈ [0] ↔ _
    rw [List.mem_singleton]
    constructor
    · intro h0
      subst h0
      refine And.intro (fun e he => by cases he) fun u hu _ => ?_
      have := sb_le hu
      omega
    · intro h
      exact (h.2 0 (sb_bit.2 fun i hi => by rw [Nat.zero_testBit] at hi; cases hi) (fun e he => by cases he)).symm
  · rw [List.concat_eq_append] at he
    have hr : Sm r := fun x hx => hR x (by rw [he]; exact List.mem_append_left _ hx)
    have hex : e < 64 := hR e (by rw [he]; exact List.mem_append_right _ (List.mem_singleton.2 rfl))
    have ih := (traL_min r hr).2
    have hs := stepF_sm (e := e) (traL_sm r).1
    rw [he, traL_snoc]
    refine And.intro (minL_ok hs).srt fun t => ?_
    rw [minL_mem hs, stepF_min hex ih]
    refine minTr_congr (fun t => ?_) t
    constructor
    · intro h x hx
      rcases List.mem_append.1 hx with hx | hx
      · exact h x (List.mem_cons_of_mem _ hx)
      · rw [List.mem_singleton.1 hx]; exact h e List.mem_cons_self
    · intro h x hx
      rcases List.mem_cons.1 hx with rfl | hx
      · exact h _ (List.mem_append_right _ (List.mem_singleton.2 rfl))
      · exact h x (List.mem_append_left _ hx)
termination_by R.length
decreasing_by rw [he]; simp
theorem ordN_lt {l : List Nat} (h : Sm l) (hn : l.Nodup) : (ordN l).Pairwise fun a b => keyN a < keyN b := by
  have h1 := ordN_le h
  have h2 : (ordN l).Nodup := (ordN_perm h).nodup_iff.2 hn
  have h3 := ordN_sm h
  refine List.Pairwise.imp_of_mem ?_ (h1.and h2)
  intro a b ha hb hab
  rcases Nat.lt_or_eq_of_le hab.1 with h4 | h4
  · exact h4
  · exact absurd (keyN_inj (h3 a ha) (h3 b hb) h4) hab.2
section
variable {n : Nat} {l : List D2}
theorem supS_64' (l : List D2) (hn : n ≤ 6) : (supS n l).length ≤ 64 := by rw [supS_len]; exact pow6 hn
theorem keyL_mem (hn : n ≤ 6) (k : Nat) : k ∈ keyL n l ↔ IsKey n l k := by
  unfold keyL
  rw [(ordN_perm (extF_sm (supS_64' l hn))).mem_iff, ext_key]
theorem antL_mem (hn : n ≤ 6) (k : Nat) : k ∈ antL n l ↔ IsAnti n l k := by
  unfold antL
  rw [(ordN_perm (extF_sm (supS_64' l hn))).mem_iff, ext_anti]
theorem keyL_lt (hn : n ≤ 6) : (keyL n l).Pairwise fun a b => keyN a < keyN b := ordN_lt (extF_sm (supS_64' l hn)) (extF_nd _ _ _)
theorem antL_len (hn : n ≤ 6) : (antL n l).length ≤ 64 := by
  unfold antL
  rw [ordN_len (extF_sm (supS_64' l hn))]
  have h1 := extP_len n (supS n l) false (supS n l).length
  have h2 := supS_64' l hn
  change (extF n (supS n l) false).length ≤ _ at h1
  omega
theorem keyL_len (hn : n ≤ 6) : (keyL n l).length ≤ 64 := by
  unfold keyL
  rw [ordN_len (extF_sm (supS_64' l hn))]
  have h1 := extP_len n (supS n l) true (supS n l).length
  have h2 := supS_64' l hn
  change (extF n (supS n l) true).length ≤ _ at h1
  omega
/-- The keys are the minimal transversals of the complements of the antikeys. -/
theorem keys_tra (hn : n ≤ 6) (h : In2 n l) : traL (minL (edgeS n (antL n l))) = keyL n l := by
  have hE : Sm (edgeS n (antL n l)) := fun e he => Nat.lt_of_lt_of_le (edge_n e he) (pow6 hn)
  obtain ⟨h1, h2⟩ := traL_min (minL (edgeS n (antL n l))) (minL_sm hE)
  refine srt_eq h1 (keyL_lt hn) fun x => ?_
  rw [h2, keyL_mem hn, key_tr (by omega) h (antL_mem hn)]
  exact minTr_congr (tr_red (minL_mem hE) hE) x
end
end Go.Ab.A20
namespace Go.Proofs.YtmcmphmhjikgkaaDoor
open Go Go.Ab Go.Ab.A20
variable [Gl]

set_option maxHeartbeats 2000000 in
set_option maxRecDepth 20000 in
theorem dual_p (n : Nat) (E Y : List Nat) (hn : n ≤ 6) (hE : ∀ e ∈ E, e < 2 ^ n) (hl : E.length ≤ 200) (hS : traL (minL E) = Y) (hnd : Y.Nodup) : PCall Tryd.prog 12 [I64 n, SS E, SS Y] (.tup [U32 0, SB true]) := by
  have al := allT_p n E hn hE hl
  rw [hS] at al
  have hSl := (traL_sm (minL E)).2
  rw [hS] at hSl
  have s20 : ¬ (20000 : Int) < ((Y.length : Nat) : Int) := by omega
  refine Call.enter' (N := 65) (rs := [.tmp 6, .tmp 7]) Tryd.func12 rfl rfl rfl (by decide) rfl ?_; simp only [argT]; have hD : (0 : Nat) = 0 := rfl
  repeat' first | (with_reducible refine And.intro (by omega) ?_) | (refine SW.seq_k fun K hK => ?_) | (refine SW.block ?_) | ((first | refine SW.region ?_ | refine SW.regionD (Checked.mixed Tryd.checked) (by kernel_rfl) ?_ | refine SW.cond ?_ | refine SW.skip ?_ | refine SW.exit ?_ | refine SW.ret ?_ | refine Call.of_pure (al) ?_ | refine ⟨_, al, ?_⟩ | (refine allF_i fun b hb => ?_; replace hD := And.intro hb hD; clear hb; try simp only [fresh_cons, fresh_nil, and_true, ne_eq, neF] at hD) | simp only [appK, appOsK]); try simp only [go_sem, hD, s20]) | (refine And.intro (by omega) ?_) | (refine ifI (fun hc => ?_) (fun hc => ?_) <;> first | (exfalso; omega) | skip) | ((first | apply hK | ((iterate 1 (clear hK K)); apply hK) | ((iterate 2 (clear hK K)); apply hK) | ((iterate 3 (clear hK K)); apply hK) | ((iterate 4 (clear hK K)); apply hK) | ((iterate 5 (clear hK K)); apply hK)); clear hK K)
  obtain ⟨I, hI⟩ : ∃ I : Nat → St → Prop, ∀ k S, I k S ↔ (∃ (i : Nat) , k = Y.length - i ∧ i ≤ Y.length ∧ S = ⟨[(2, SS Y), (8, SS Y), (10, .mp b), (31, SS Y), (32, I64 Y.length), (33, I64 i)], [(b, .mp (mS (Y.take i)))]⟩) := ⟨fun k S => _, fun _ _ => Iff.rfl⟩
  refine SW.loop' I (Y.length) ((hI _ _).2 ⟨0, rfl, Nat.zero_le _, rfl⟩) (by repeat' (first | exact rfl | exact trivial | exact int_eq (by omega) | exact int_eq (by (rw [i64_wrap] <;> omega)) | constructor)) ?_
  intro k S hIn
  obtain ⟨i, rfl, hi, rfl⟩ := (hI _ _).1 hIn
  clear hIn
  have ie : ((i : Nat) : Int).toNat = i := Int.toNat_natCast _
  have i0 : (0 : Int) ≤ ((i : Nat) : Int) := by omega
  by_cases hlt : i < Y.length
  · have hli : ((i : Nat) : Int) < (((Y.length) : Nat) : Int) := by omega
    have w1 : IntKind.i64.wrap ((i : Int) + 1) = ((i + 1 : Nat) : Int) := by rw [i64_wrap (by omega) (by omega)]; omega
    have hni : Y.getD i 0 ∉ Y.take i := fun hm => by
      obtain ⟨j, hj, e⟩ := List.getElem_of_mem hm
      rw [List.length_take] at hj
      rw [List.getElem_take, getD_in 0 hlt] at e
      have := (List.getElem_inj hnd).1 e
      omega
    have mo := mf_out (S := Y.take i) 0 hni
    have ms := mset_new (Y.take i) (Y.getD i 0)
    rw [← take_snoc 0 hlt] at ms
    have tf : sF Y i = [U32 (Y.getD i 0)] := rfl
    generalize Y.getD i 0 = a at *
    repeat' first | (with_reducible refine And.intro (by omega) ?_) | (refine SW.seq_k fun K hK => ?_) | (refine SW.block ?_) | ((first | refine SW.region ?_ | refine SW.regionD (Checked.mixed Tryd.checked) (by kernel_rfl) ?_ | refine SW.cond ?_ | refine SW.skip ?_ | refine SW.exit ?_ | refine SW.ret ?_ | (refine allF_i fun b hb => ?_; replace hD := And.intro hb hD; clear hb; try simp only [fresh_cons, fresh_nil, and_true, ne_eq, neF] at hD) | simp only [appK, appOsK]); try simp only [go_sem, hD, hli, ie, i0, w1, tf, mo, ms]) | (refine And.intro (by omega) ?_) | (refine ifI (fun hc => ?_) (fun hc => ?_) <;> first | (exfalso; omega) | skip) | ((first | apply hK | ((iterate 1 (clear hK K)); apply hK) | ((iterate 2 (clear hK K)); apply hK) | ((iterate 3 (clear hK K)); apply hK) | ((iterate 4 (clear hK K)); apply hK) | ((iterate 5 (clear hK K)); apply hK)); clear hK K)
    refine Rnd.sub (Y.length - (i + 1)) (by omega) ((hI _ _).2 ⟨i + 1, rfl, by omega, rfl⟩) (by repeat' (first | exact rfl | exact trivial | exact int_eq (by omega) | exact int_eq (by (rw [i64_wrap] <;> omega)) | constructor))
  · have hli : ¬ ((i : Nat) : Int) < (((Y.length) : Nat) : Int) := by omega
    obtain rfl : i = Y.length := by omega
    rw [List.take_length]
    clear hI
    repeat' first | (with_reducible refine And.intro (by omega) ?_) | (refine SW.seq_k fun K hK => ?_) | (refine SW.block ?_) | ((first | refine SW.region ?_ | refine SW.regionD (Checked.mixed Tryd.checked) (by kernel_rfl) ?_ | refine SW.cond ?_ | refine SW.skip ?_ | refine SW.exit ?_ | refine SW.ret ?_ | (refine allF_i fun b hb => ?_; replace hD := And.intro hb hD; clear hb; try simp only [fresh_cons, fresh_nil, and_true, ne_eq, neF] at hD) | simp only [appK, appOsK]); try simp only [go_sem, hD, hli]) | (refine And.intro (by omega) ?_) | (refine ifI (fun hc => ?_) (fun hc => ?_) <;> first | (exfalso; omega) | skip) | ((first | apply hK | ((iterate 1 (clear hK K)); apply hK) | ((iterate 2 (clear hK K)); apply hK) | ((iterate 3 (clear hK K)); apply hK) | ((iterate 4 (clear hK K)); apply hK) | ((iterate 5 (clear hK K)); apply hK)); clear hK K)
    obtain ⟨I, hI⟩ : ∃ I : Nat → St → Prop, ∀ k S, I k S ↔ (∃ (i : Nat) , k = Y.length - i ∧ i ≤ Y.length ∧ S = ⟨[(2, SS Y), (10, .mp b), (40, SS Y), (41, I64 Y.length), (42, I64 i)], [(b, .mp (mS (Y.drop i)))]⟩) := ⟨fun k S => _, fun _ _ => Iff.rfl⟩
    refine SW.loop' I (Y.length) ((hI _ _).2 ⟨0, rfl, Nat.zero_le _, rfl⟩) (by repeat' (first | exact rfl | exact trivial | exact int_eq (by omega) | exact int_eq (by (rw [i64_wrap] <;> omega)) | constructor)) ?_
    intro k S hIn
    obtain ⟨i, rfl, hi, rfl⟩ := (hI _ _).1 hIn
    clear hIn
    have ie : ((i : Nat) : Int).toNat = i := Int.toNat_natCast _
    have i0 : (0 : Int) ≤ ((i : Nat) : Int) := by omega
    by_cases hlt : i < Y.length
    · have hli : ((i : Nat) : Int) < (((Y.length) : Nat) : Int) := by omega
      have w1 : IntKind.i64.wrap ((i : Int) + 1) = ((i + 1 : Nat) : Int) := by rw [i64_wrap (by omega) (by omega)]; omega
      have hdr := drop_cons 0 hlt
      have tf : sF Y i = [U32 (Y.getD i 0)] := rfl
      generalize Y.getD i 0 = a at *
      have mo := mf_head (a := a) (S := Y.drop (i + 1))
      have md := mdel_head (Y.drop (i + 1)) a (.bool true)
      rw [hdr]
      repeat' first | (with_reducible refine And.intro (by omega) ?_) | (refine SW.seq_k fun K hK => ?_) | (refine SW.block ?_) | ((first | refine SW.region ?_ | refine SW.regionD (Checked.mixed Tryd.checked) (by kernel_rfl) ?_ | refine SW.cond ?_ | refine SW.skip ?_ | refine SW.exit ?_ | refine SW.ret ?_ | (refine allF_i fun b hb => ?_; replace hD := And.intro hb hD; clear hb; try simp only [fresh_cons, fresh_nil, and_true, ne_eq, neF] at hD) | simp only [appK, appOsK]); try simp only [go_sem, hD, hli, ie, i0, w1, tf, mo, md]) | (refine And.intro (by omega) ?_) | (refine ifI (fun hc => ?_) (fun hc => ?_) <;> first | (exfalso; omega) | skip) | ((first | apply hK | ((iterate 1 (clear hK K)); apply hK) | ((iterate 2 (clear hK K)); apply hK) | ((iterate 3 (clear hK K)); apply hK) | ((iterate 4 (clear hK K)); apply hK) | ((iterate 5 (clear hK K)); apply hK)); clear hK K)
      refine Rnd.sub (Y.length - (i + 1)) (by omega) ((hI _ _).2 ⟨i + 1, rfl, by omega, rfl⟩) (by repeat' (first | exact rfl | exact trivial | exact int_eq (by omega) | exact int_eq (by (rw [i64_wrap] <;> omega)) | constructor))
    · have hli : ¬ ((i : Nat) : Int) < (((Y.length) : Nat) : Int) := by omega
      obtain rfl : i = Y.length := by omega
      rw [List.drop_length]
      have mn : ∀ a : Nat, mfI (.i .u32) (.int .u32 (a : Int)) (mS []) 0 = some none := fun a => rfl
      clear hI
      repeat' first | (with_reducible refine And.intro (by omega) ?_) | (refine SW.seq_k fun K hK => ?_) | (refine SW.block ?_) | ((first | refine SW.region ?_ | refine SW.regionD (Checked.mixed Tryd.checked) (by kernel_rfl) ?_ | refine SW.cond ?_ | refine SW.skip ?_ | refine SW.exit ?_ | refine SW.ret ?_ | (refine allF_i fun b hb => ?_; replace hD := And.intro hb hD; clear hb; try simp only [fresh_cons, fresh_nil, and_true, ne_eq, neF] at hD) | simp only [appK, appOsK]); try simp only [go_sem, hD, hli]) | (refine And.intro (by omega) ?_) | (refine ifI (fun hc => ?_) (fun hc => ?_) <;> first | (exfalso; omega) | skip) | ((first | apply hK | ((iterate 1 (clear hK K)); apply hK) | ((iterate 2 (clear hK K)); apply hK) | ((iterate 3 (clear hK K)); apply hK) | ((iterate 4 (clear hK K)); apply hK) | ((iterate 5 (clear hK K)); apply hK)); clear hK K)
      obtain ⟨I, hI⟩ : ∃ I : Nat → St → Prop, ∀ k S, I k S ↔ (∃ (i : Nat) , k = Y.length - i ∧ i ≤ Y.length ∧ S = ⟨[(10, .mp b), (54, SS Y), (55, I64 Y.length), (56, I64 i)], [(b, .mp (mS []))]⟩) := ⟨fun k S => _, fun _ _ => Iff.rfl⟩
      refine SW.loop' I (Y.length) ((hI _ _).2 ⟨0, rfl, Nat.zero_le _, rfl⟩) (by repeat' (first | exact rfl | exact trivial | exact int_eq (by omega) | exact int_eq (by (rw [i64_wrap] <;> omega)) | constructor)) ?_
      intro k S hIn
      obtain ⟨i, rfl, hi, rfl⟩ := (hI _ _).1 hIn
      clear hIn
      have ie : ((i : Nat) : Int).toNat = i := Int.toNat_natCast _
      have i0 : (0 : Int) ≤ ((i : Nat) : Int) := by omega
      by_cases hlt : i < Y.length
      · have hli : ((i : Nat) : Int) < (((Y.length) : Nat) : Int) := by omega
        have w1 : IntKind.i64.wrap ((i : Int) + 1) = ((i + 1 : Nat) : Int) := by rw [i64_wrap (by omega) (by omega)]; omega
        have tf : sF Y i = [U32 (Y.getD i 0)] := rfl
        generalize Y.getD i 0 = a at *
        repeat' first | (with_reducible refine And.intro (by omega) ?_) | (refine SW.seq_k fun K hK => ?_) | (refine SW.block ?_) | ((first | refine SW.region ?_ | refine SW.regionD (Checked.mixed Tryd.checked) (by kernel_rfl) ?_ | refine SW.cond ?_ | refine SW.skip ?_ | refine SW.exit ?_ | refine SW.ret ?_ | (refine allF_i fun b hb => ?_; replace hD := And.intro hb hD; clear hb; try simp only [fresh_cons, fresh_nil, and_true, ne_eq, neF] at hD) | simp only [appK, appOsK]); try simp only [go_sem, hD, hli, ie, i0, w1, tf, mn]) | (refine And.intro (by omega) ?_) | (refine ifI (fun hc => ?_) (fun hc => ?_) <;> first | (exfalso; omega) | skip) | ((first | apply hK | ((iterate 1 (clear hK K)); apply hK) | ((iterate 2 (clear hK K)); apply hK) | ((iterate 3 (clear hK K)); apply hK) | ((iterate 4 (clear hK K)); apply hK) | ((iterate 5 (clear hK K)); apply hK)); clear hK K)
        refine Rnd.sub (Y.length - (i + 1)) (by omega) ((hI _ _).2 ⟨i + 1, rfl, by omega, rfl⟩) (by repeat' (first | exact rfl | exact trivial | exact int_eq (by omega) | exact int_eq (by (rw [i64_wrap] <;> omega)) | constructor))
      · have hli : ¬ ((i : Nat) : Int) < (((Y.length) : Nat) : Int) := by omega
        repeat' first | (with_reducible refine And.intro (by omega) ?_) | (refine SW.seq_k fun K hK => ?_) | (refine SW.block ?_) | ((first | refine SW.region ?_ | refine SW.regionD (Checked.mixed Tryd.checked) (by kernel_rfl) ?_ | refine SW.cond ?_ | refine SW.skip ?_ | refine SW.exit ?_ | refine SW.ret ?_ | (refine allF_i fun b hb => ?_; replace hD := And.intro hb hD; clear hb; try simp only [fresh_cons, fresh_nil, and_true, ne_eq, neF] at hD) | simp only [appK, appOsK]); try simp only [go_sem, hD, hli]) | (refine And.intro (by omega) ?_) | (refine ifI (fun hc => ?_) (fun hc => ?_) <;> first | (exfalso; omega) | skip) | ((first | apply hK | ((iterate 1 (clear hK K)); apply hK) | ((iterate 2 (clear hK K)); apply hK) | ((iterate 3 (clear hK K)); apply hK) | ((iterate 4 (clear hK K)); apply hK) | ((iterate 5 (clear hK K)); apply hK)); clear hK K)
        refine ret_pure ?_; simp only [resL_tmp, resL_nil, tupOf, go_sem, hD]

set_option maxHeartbeats 2000000 in
set_option maxRecDepth 20000 in
theorem check_p (n : Nat) (l : List D2) (KK A : List Nat) (hn : n ≤ 6) (h2 : In2 n l) (h64 : l.length ≤ 64) (hq : ∀ k ∈ KK, k < 2 ^ n ∧ sup n l k = true) (hp : ∀ m ∈ A, m < 2 ^ n ∧ sup n l m = false) (hAl : A.length ≤ 200) (hKl : KK.length ≤ 1000000)
    (du : PCall Tryd.prog 12 [I64 n, SS (edgeS n A), SS KK] (.tup [U32 0, SB true])) : PCall Tryd.prog 9 [I64 n, DL l, SS KK, SS A] (SB true) := by
  have h6 := pow6 hn
  have va := valid_p n l (in2_ok (by omega) h2) (by omega) h64
  rw [valE_ok hn h64 h2] at va
  have nn0 : (0 : Int) ≤ ((n : Nat) : Int) := by omega
  have ne : ((n : Nat) : Int).toNat = n := Int.toNat_natCast _
  have nm : min n 32 = n := by omega
  have l2 : ¬ (200 : Int) < ((A.length : Nat) : Int) := by omega
  have hf := kfull_p n (by omega)
  refine Call.enter' (N := 69) (rs := [.tmp 8]) Tryd.func9 rfl rfl rfl (by decide) rfl ?_; simp only [argT]; have hD : (0 : Nat) = 0 := rfl
  repeat' first | (with_reducible refine And.intro (by omega) ?_) | (refine SW.seq_k fun K hK => ?_) | (refine SW.block ?_) | ((first | refine SW.region ?_ | refine SW.regionD (Checked.mixed Tryd.checked) (by kernel_rfl) ?_ | refine SW.cond ?_ | refine SW.skip ?_ | refine SW.exit ?_ | refine SW.ret ?_ | refine Call.of_pure (va) ?_ | refine ⟨_, va, ?_⟩ | (refine allF_i fun b hb => ?_; replace hD := And.intro hb hD; clear hb; try simp only [fresh_cons, fresh_nil, and_true, ne_eq, neF] at hD) | simp only [appK, appOsK]); try simp only [go_sem, hD, l2]) | (refine And.intro (by omega) ?_) | (refine ifI (fun hc => ?_) (fun hc => ?_) <;> first | (exfalso; omega) | skip) | ((first | apply hK | ((iterate 1 (clear hK K)); apply hK) | ((iterate 2 (clear hK K)); apply hK) | ((iterate 3 (clear hK K)); apply hK) | ((iterate 4 (clear hK K)); apply hK) | ((iterate 5 (clear hK K)); apply hK)); clear hK K)
  obtain ⟨I, hI⟩ : ∃ I : Nat → St → Prop, ∀ k S, I k S ↔ (∃ (i : Nat) , k = KK.length - i ∧ i ≤ KK.length ∧ S = ⟨[(0, I64 n), (1, DL l), (2, SS KK), (3, SS A), (25, SS KK), (26, I64 KK.length), (27, I64 i)], []⟩) := ⟨fun k S => _, fun _ _ => Iff.rfl⟩
  refine SW.loop' I (KK.length) ((hI _ _).2 ⟨0, rfl, Nat.zero_le _, rfl⟩) (by repeat' (first | exact rfl | exact trivial | exact int_eq (by omega) | exact int_eq (by (rw [i64_wrap] <;> omega)) | constructor)) ?_
  intro k S hIn
  obtain ⟨i, rfl, hi, rfl⟩ := (hI _ _).1 hIn
  clear hIn
  have ie : ((i : Nat) : Int).toNat = i := Int.toNat_natCast _
  have i0 : (0 : Int) ≤ ((i : Nat) : Int) := by omega
  by_cases hlt : i < KK.length
  · have hli : ((i : Nat) : Int) < (((KK.length) : Nat) : Int) := by omega
    have w1 : IntKind.i64.wrap ((i : Int) + 1) = ((i + 1 : Nat) : Int) := by rw [i64_wrap (by omega) (by omega)]; omega
    have hk := hq _ (getD_mem 0 hlt)
    have sk := superkey_p n l _ hn h2 h64 hk.1
    rw [hk.2] at sk
    have tf : sF KK i = [U32 (KK.getD i 0)] := rfl
    generalize KK.getD i 0 = a at *
    repeat' first | (with_reducible refine And.intro (by omega) ?_) | (refine SW.seq_k fun K hK => ?_) | (refine SW.block ?_) | ((first | refine SW.region ?_ | refine SW.regionD (Checked.mixed Tryd.checked) (by kernel_rfl) ?_ | refine SW.cond ?_ | refine SW.skip ?_ | refine SW.exit ?_ | refine SW.ret ?_ | refine Call.of_pure (sk) ?_ | refine ⟨_, sk, ?_⟩ | (refine allF_i fun b hb => ?_; replace hD := And.intro hb hD; clear hb; try simp only [fresh_cons, fresh_nil, and_true, ne_eq, neF] at hD) | simp only [appK, appOsK]); try simp only [go_sem, hD, hli, ie, i0, w1, tf]) | (refine And.intro (by omega) ?_) | (refine ifI (fun hc => ?_) (fun hc => ?_) <;> first | (exfalso; omega) | skip) | ((first | apply hK | ((iterate 1 (clear hK K)); apply hK) | ((iterate 2 (clear hK K)); apply hK) | ((iterate 3 (clear hK K)); apply hK) | ((iterate 4 (clear hK K)); apply hK) | ((iterate 5 (clear hK K)); apply hK)); clear hK K)
    refine Rnd.sub (KK.length - (i + 1)) (by omega) ((hI _ _).2 ⟨i + 1, rfl, by omega, rfl⟩) (by repeat' (first | exact rfl | exact trivial | exact int_eq (by omega) | exact int_eq (by (rw [i64_wrap] <;> omega)) | constructor))
  · have hli : ¬ ((i : Nat) : Int) < (((KK.length) : Nat) : Int) := by omega
    have hEl : (edgeS n A).length = A.length := List.length_map _
    have hEt : ∀ i, i < A.length → (edgeS n A).take (i + 1) = (edgeS n A).take i ++ [dif (2 ^ n - 1) (A.getD i 0)] := fun i hi => by
      rw [take_snoc 0 (by rw [hEl]; exact hi)]
      congr 2
      unfold edgeS
      simp [List.getD_eq_getElem?_getD, hi]
    clear hI
    repeat' first | (with_reducible refine And.intro (by omega) ?_) | (refine SW.seq_k fun K hK => ?_) | (refine SW.block ?_) | ((first | refine SW.region ?_ | refine SW.regionD (Checked.mixed Tryd.checked) (by kernel_rfl) ?_ | refine SW.cond ?_ | refine SW.skip ?_ | refine SW.exit ?_ | refine SW.ret ?_ | (refine allF_i fun b hb => ?_; replace hD := And.intro hb hD; clear hb; try simp only [fresh_cons, fresh_nil, and_true, ne_eq, neF] at hD) | simp only [appK, appOsK]); try simp only [go_sem, hD, hli]) | (refine And.intro (by omega) ?_) | (refine ifI (fun hc => ?_) (fun hc => ?_) <;> first | (exfalso; omega) | skip) | ((first | apply hK | ((iterate 1 (clear hK K)); apply hK) | ((iterate 2 (clear hK K)); apply hK) | ((iterate 3 (clear hK K)); apply hK) | ((iterate 4 (clear hK K)); apply hK) | ((iterate 5 (clear hK K)); apply hK)); clear hK K)
    obtain ⟨I, hI⟩ : ∃ I : Nat → St → Prop, ∀ k S, I k S ↔ (∃ (j : Nat) (x : SV) (h : Heap), k = A.length - j ∧ j ≤ A.length ∧ Acc 1 x h [] j (fC sC1 ((edgeS n A).take j)) ∧ S = ⟨[(0, I64 n), (1, DL l), (2, SS KK), (11, x), (37, SS A), (38, I64 A.length), (39, I64 j)], h⟩) := ⟨fun k S => _, fun _ _ => Iff.rfl⟩
    refine SW.loop' I (A.length) ((hI _ _).2 ⟨0, _, _, rfl, Nat.zero_le _, .nil _ _, rfl⟩) (by repeat' (first | exact rfl | exact trivial | exact int_eq (by omega) | exact int_eq (by (rw [i64_wrap] <;> omega)) | constructor)) ?_
    intro k S hIn
    obtain ⟨j, x, h, rfl, hi, hB, rfl⟩ := (hI _ _).1 hIn
    clear hIn
    have ie : ((j : Nat) : Int).toNat = j := Int.toNat_natCast _
    have i0 : (0 : Int) ≤ ((j : Nat) : Int) := by omega
    by_cases hlt : j < A.length
    · have hli : ((j : Nat) : Int) < (((A.length) : Nat) : Int) := by omega
      have w1 : IntKind.i64.wrap ((j : Int) + 1) = ((j + 1 : Nat) : Int) := by rw [i64_wrap (by omega) (by omega)]; omega
      have hm := hp _ (getD_mem 0 hlt)
      have hst := hEt j hlt
      have tf : sF A j = [U32 (A.getD j 0)] := rfl
      generalize A.getD j 0 = a at *
      have sk := superkey_p n l a hn h2 h64 hm.1
      rw [hm.2] at sk
      have sh := shr32 a n
      have hz : ((a / 2 ^ n : Nat) : Int) = 0 := by rw [Nat.div_eq_of_lt hm.1]; rfl
      rw [hz] at sh
      have en := not32 (2 ^ n - 1) a (by omega) (by omega)
      have ba : (j + 1) * 4 ≤ 140737488355328 := by omega
      generalize dif (2 ^ n - 1) a = v at *
      rcases hB.casesH with ⟨e0, e1, rfl, rfl⟩ | ⟨g, hgf, e0, rfl, hle⟩
      · have hLn : j = 0 := e0
        subst hLn
        repeat' first | (with_reducible refine And.intro (by omega) ?_) | (refine SW.seq_k fun K hK => ?_) | (refine SW.block ?_) | ((first | refine SW.region ?_ | refine SW.regionD (Checked.mixed Tryd.checked) (by kernel_rfl) ?_ | refine SW.cond ?_ | refine SW.skip ?_ | refine SW.exit ?_ | refine SW.ret ?_ | refine Call.of_pure (sk) ?_ | refine ⟨_, sk, ?_⟩ | refine Call.of_pure (hf) ?_ | refine ⟨_, hf, ?_⟩ | (refine allF_i fun b hb => ?_; replace hD := And.intro hb hD; clear hb; try simp only [fresh_cons, fresh_nil, and_true, ne_eq, neF] at hD) | simp only [appK, appOsK]); try simp only [go_sem, hD, hli, ie, i0, w1, tf, nn0, ne, nm, sh, en, ba, true_implies]) | (refine And.intro (by omega) ?_) | (refine ifI (fun hc => ?_) (fun hc => ?_) <;> first | (exfalso; omega) | skip) | ((first | apply hK | ((iterate 1 (clear hK K)); apply hK) | ((iterate 2 (clear hK K)); apply hK) | ((iterate 3 (clear hK K)); apply hK) | ((iterate 4 (clear hK K)); apply hK) | ((iterate 5 (clear hK K)); apply hK)); clear hK K)
        refine Rnd.le (St.le_pick [(b, .ints .u32 [(v : Int)])] ?_ ?_) (Rnd.sub (A.length - (0 + 1)) (by omega) ((hI _ _).2 ⟨0 + 1, _, _, rfl, by omega, (by rw [hst]; exact .inr ⟨b, .ints .u32 [(v : Int)], by simp [fresh_nil], rfl, rfl, rfl, rfl, rfl⟩), rfl⟩) (by repeat' (first | exact rfl | exact trivial | exact int_eq (by omega) | exact int_eq (by (rw [i64_wrap] <;> omega)) | constructor)))
        · repeat' (first | exact (fun x hx => (List.not_mem_nil hx).elim) | refine List.forall_mem_cons.2 ⟨?_, ?_⟩ | exact List.mem_cons_self | apply List.mem_cons_of_mem)
        · simp [fresh_cons, fresh_nil, hD]
      · refine Ab.SW.le (hle _) ?_
        repeat' first | (with_reducible refine And.intro (by omega) ?_) | (refine SW.seq_k fun K hK => ?_) | (refine SW.block ?_) | ((first | refine SW.region ?_ | refine SW.regionD (Checked.mixed Tryd.checked) (by kernel_rfl) ?_ | refine SW.cond ?_ | refine SW.skip ?_ | refine SW.exit ?_ | refine SW.ret ?_ | refine Call.of_pure (sk) ?_ | refine ⟨_, sk, ?_⟩ | refine Call.of_pure (hf) ?_ | refine ⟨_, hf, ?_⟩ | (refine allF_i fun b hb => ?_; replace hD := And.intro hb hD; clear hb; try simp only [fresh_cons, fresh_nil, and_true, ne_eq, neF] at hD) | simp only [appK, appOsK]); try simp only [go_sem, hD, hli, ie, i0, w1, tf, nn0, ne, nm, sh, en, ba, true_implies, e0]) | (refine And.intro (by omega) ?_) | (refine ifI (fun hc => ?_) (fun hc => ?_) <;> first | (exfalso; omega) | skip) | ((first | apply hK | ((iterate 1 (clear hK K)); apply hK) | ((iterate 2 (clear hK K)); apply hK) | ((iterate 3 (clear hK K)); apply hK) | ((iterate 4 (clear hK K)); apply hK) | ((iterate 5 (clear hK K)); apply hK)); clear hK K)
        refine Rnd.le (St.le_pick [(b, .svs (fC sC1 ((edgeS n A).take j) ++ sC1 v))] ?_ ?_) (Rnd.sub (A.length - (j + 1)) (by omega) ((hI _ _).2 ⟨j + 1, _, _, rfl, by omega, (by rw [hst, ← fC_snoc]; exact Acc.osH (by simp [fresh_nil]) (by rw [List.length_append, ← e0]; simp [sC1])), rfl⟩) (by repeat' (first | exact rfl | exact trivial | exact int_eq (by omega) | exact int_eq (by (rw [i64_wrap] <;> omega)) | constructor)))
        · repeat' (first | exact (fun x hx => (List.not_mem_nil hx).elim) | refine List.forall_mem_cons.2 ⟨?_, ?_⟩ | exact List.mem_cons_self | apply List.mem_cons_of_mem)
        · simp [fresh_cons, fresh_nil, hD]
    · have hli : ¬ ((j : Nat) : Int) < (((A.length) : Nat) : Int) := by omega
      obtain rfl : j = A.length := by omega
      rw [show (edgeS n A).take A.length = edgeS n A from by rw [← hEl, List.take_length]] at hB
      refine Ab.SW.le (St.le_acc_fl (i := 11) (n := A.length) (sz := 1) (x := x) rfl hB (sF (edgeS n A)) (fun j hj => fC_at sC1_len 0 _ j (by rw [hEl]; exact hj))) ?_
      rw [show SV.fl A.length 1 (sF (edgeS n A)) = SS (edgeS n A) by rw [← hEl]]
      repeat' first | (with_reducible refine And.intro (by omega) ?_) | (refine SW.seq_k fun K hK => ?_) | (refine SW.block ?_) | ((first | refine SW.region ?_ | refine SW.regionD (Checked.mixed Tryd.checked) (by kernel_rfl) ?_ | refine SW.cond ?_ | refine SW.skip ?_ | refine SW.exit ?_ | refine SW.ret ?_ | refine Call.of_pure (du) ?_ | refine ⟨_, du, ?_⟩ | (refine allF_i fun b hb => ?_; replace hD := And.intro hb hD; clear hb; try simp only [fresh_cons, fresh_nil, and_true, ne_eq, neF] at hD) | simp only [appK, appOsK]); try simp only [go_sem, hD, hli]) | (refine And.intro (by omega) ?_) | (refine ifI (fun hc => ?_) (fun hc => ?_) <;> first | (exfalso; omega) | skip) | ((first | apply hK | ((iterate 1 (clear hK K)); apply hK) | ((iterate 2 (clear hK K)); apply hK) | ((iterate 3 (clear hK K)); apply hK) | ((iterate 4 (clear hK K)); apply hK) | ((iterate 5 (clear hK K)); apply hK)); clear hK K)
      refine ret_pure ?_; simp only [resL_tmp, resL_nil, tupOf, go_sem, hD]
end Go.Proofs.YtmcmphmhjikgkaaDoor
