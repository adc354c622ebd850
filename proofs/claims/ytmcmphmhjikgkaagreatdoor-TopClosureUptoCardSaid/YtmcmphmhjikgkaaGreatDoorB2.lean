/- Lists of sets handed on; bits of small numbers. -/
import Derived.Test.YtmcmphmhjikgkaaGreatDoorA3
import Derived.Test.YtmcmphmhjikgkaaGreatDoorK2
set_option linter.unusedSimpArgs false
set_option linter.unusedVariables false
set_option linter.unusedSectionVars false
namespace Go.Ab
open Go.RowKit
/-- A nil slice is handed on as an empty one. -/
theorem Call.nil_fl [Gl] {P : Program} {f : FuncId} {args : List SV} {h : Heap} {Q : SV → Heap → Prop} (i : Nat) {sz : Nat} (g : Nat → List SV) (hi : i < args.length) (ha : args.getD i .any = .sc (.slice none 0 0)) (hc : Call P f (args.set i (.fl 0 sz g)) h Q) : Call P f args h Q := by
  refine Call.le (fun c hc => hc) (fun M w vs own hr => ⟨own, by simpa using hr.1, fun j hj => ?_⟩) hc
  rw [getD_set hi]
  have h0 := hr.2 j (by simpa using hj)
  by_cases hij : i = j
  · subst hij
    rw [if_pos rfl]
    rw [ha] at h0
    exact Rep.fl_nil h0
  · rw [if_neg hij]; exact h0
end Go.Ab
namespace Go.Ab.A20
open Go Go.Ab
/-- An owned list is handed on to be read. -/
theorem freeze_fC [Gl] {P : Program} {f : FuncId} {args : List SV} {h : Heap} {Q : SV → Heap → Prop} {α : Type} (i : Nat) {b n sz : Nat} {cs : List SV} {enc : α → List SV} (hsz : ∀ x, (enc x).length = sz) (d : α) (l : List α) (hi : i < args.length) (ha : args.getD i .any = .os b 0 n sz) (hn : n = l.length)
    (hk : h.find b = some (.svs cs)) (hb : cs = fC enc l) (hc : Ab.Call P f (args.set i (.fl l.length sz (fun j => enc (l.getD j d)))) (h.del b) Q) : Ab.Call P f args h Q := by
  subst hn hb
  have hl := fC_len hsz l
  refine Call.freeze (k := .svs (fC enc l)) (sz := sz) (off := 0) i (fun j => enc (l.getD j d)) hi ha hk (by rw [Nat.zero_add, hl]; exact Nat.le_refl _) (fun j hj => ?_) hc
  have h3 := index_lt (s := sz) hj
  have h4 : j * sz + sz ≤ l.length * sz := by
    have : (j + 1) * sz ≤ l.length * sz := Nat.mul_le_mul_right _ hj
    rw [Nat.add_mul, Nat.one_mul] at this
    exact this
  rw [Nat.zero_add, getN_take (.svs (fC enc l)) sz (j * sz) (by simp only [Blk.len]; omega)]
  exact fC_at hsz d l j hj
theorem sh64 (n : Nat) (h : n ≤ 31) : IntKind.i64.wrap ((1 : Int) * 2 ^ min n 64) = ((2 ^ n : Nat) : Int) := by
  rw [Nat.min_eq_left (by omega), Int.one_mul]
  have h1 : (2 : Nat) ^ n ≤ 2 ^ 31 := Nat.pow_le_pow_right (by omega) h
  have e : ((2 : Int) ^ n) = ((2 ^ n : Nat) : Int) := by simp
  rw [e]
  generalize (2 : Nat) ^ n = x at h1 ⊢
  exact i64_wrap (by omega) (by omega)
theorem pow6 {n : Nat} (h : n ≤ 6) : 2 ^ n ≤ 64 := Nat.pow_le_pow_right (n := 2) (by omega) h
theorem xor64_fin : ∀ s : Fin 64, ∀ a : Fin 6, bits .xor .i64 (s.val : Int) ((2 ^ a.val : Nat) : Int) = ((s.val ^^^ 2 ^ a.val : Nat) : Int) := by decide +kernel
theorem xor64 {s a : Nat} (hs : s < 64) (ha : a < 6) : bits .xor .i64 (s : Int) ((2 ^ a : Nat) : Int) = ((flip s a : Nat) : Int) := xor64_fin ⟨s, hs⟩ ⟨a, ha⟩
/-- The lowest member. -/
def lowN (r : Nat) : Nat := if r % 2 = 1 then 1 else if r % 4 = 2 then 2 else if r % 8 = 4 then 4 else if r % 16 = 8 then 8 else if r % 32 = 16 then 16 else 32
theorem low_fin : ∀ r : Fin 64, r.val ≠ 0 → bits .and .u32 (r.val : Int) (IntKind.u32.wrap (0 - (r.val : Int))) = (lowN r.val : Nat) ∧ bits .and .u32 (r.val : Int) (IntKind.u32.wrap ((r.val : Int) - 1)) = ((r.val - lowN r.val : Nat) : Int) ∧ bitsL r.val = lowN r.val :: bitsL (r.val - lowN r.val) ∧ lowN r.val ≤ r.val ∧ 0 < lowN r.val ∧ lowN r.val < 64 := by decide +kernel
theorem low_N {r : Nat} (h : r < 64) (h0 : r ≠ 0) : bits .and .u32 (r : Int) (IntKind.u32.wrap (0 - (r : Int))) = (lowN r : Nat) ∧ bits .and .u32 (r : Int) (IntKind.u32.wrap ((r : Int) - 1)) = ((r - lowN r : Nat) : Int) ∧ bitsL r = lowN r :: bitsL (r - lowN r) ∧ lowN r ≤ r ∧ 0 < lowN r ∧ lowN r < 64 := low_fin ⟨r, h⟩ h0
theorem bitsL_0 : bitsL 0 = [] := by decide
/-- Which sets were looked at. -/
def supP (n : Nat) (l : List D2) (i : Nat) : List Bool := (List.range (2 ^ n)).map fun s => decide (s < i) && sup n l s
theorem supP_len (n : Nat) (l : List D2) (i : Nat) : (supP n l i).length = 2 ^ n := by unfold supP; simp
theorem supP_0 (n : Nat) (l : List D2) : supP n l 0 = List.replicate (2 ^ n) false := by
  refine List.ext_getElem (by simp [supP]) fun i h1 h2 => ?_
  simp [supP]
theorem supP_end (n : Nat) (l : List D2) : supP n l (2 ^ n) = supS n l := by
  unfold supP supS
  refine List.map_congr_left fun s hs => ?_
  rw [decide_eq_true (List.mem_range.1 hs), Bool.true_and]
theorem supP_at (n : Nat) (l : List D2) (i j : Nat) (h : j < (supP n l i).length) : (supP n l i)[j] = (decide (j < i) && sup n l j) := by simp [supP]
theorem supP_set {n : Nat} {l : List D2} {i : Nat} (h : i < 2 ^ n) : (supP n l i).set i (sup n l i) = supP n l (i + 1) := by
  refine List.ext_getElem (by rw [List.length_set, supP_len, supP_len]) fun j h1 h2 => ?_
  rw [List.getElem_set, supP_at n l (i + 1) j h2]
  by_cases hij : i = j
  · subst hij
    rw [if_pos rfl, decide_eq_true (by omega), Bool.true_and]
  · rw [if_neg hij, supP_at n l i j]
    congr 1
    rw [decide_eq_decide]
    omega
abbrev BL (l : List Bool) : SV := bools l
/-- What stands of a set after some attributes. -/
def extQ (n : Nat) (L : List Bool) (want : Bool) (s a : Nat) : Bool := (L.getD s false == want) && (List.range a).all fun a => !((decide (flip s a < s) == want) && (L.getD (flip s a) false == want))
theorem extQ_0 (n : Nat) (L : List Bool) (want : Bool) (s : Nat) : extQ n L want s 0 = (L.getD s false == want) := by simp [extQ]
theorem extQ_n (n : Nat) (L : List Bool) (want : Bool) (s : Nat) : extQ n L want s n = extB n L want s := rfl
theorem extQ_s (n : Nat) (L : List Bool) (want : Bool) (s a : Nat) : extQ n L want s (a + 1) = (extQ n L want s a && !((decide (flip s a < s) == want) && (L.getD (flip s a) false == want))) := by
  unfold extQ
  rw [List.range_succ, List.all_append, List.all_cons, List.all_nil, Bool.and_true, Bool.and_assoc]
theorem extQ_f {n : Nat} {L : List Bool} {want : Bool} {s a : Nat} (h : extQ n L want s a = false) : ∀ k, extQ n L want s (a + k) = false := fun k => by
  induction k with
  | zero => exact h
  | succ k ih => rw [← Nat.add_assoc, extQ_s, ih]; rfl
def extP (n : Nat) (L : List Bool) (want : Bool) (i : Nat) : List Nat := (List.range i).filter fun s => extB n L want s
theorem extP_s (n : Nat) (L : List Bool) (want : Bool) (i : Nat) : extP n L want (i + 1) = extP n L want i ++ (if extB n L want i = true then [i] else []) := by
  unfold extP
  rw [List.range_succ, List.filter_append]
  congr 1
  rw [List.filter_cons, List.filter_nil]
theorem extP_len (n : Nat) (L : List Bool) (want : Bool) (i : Nat) : (extP n L want i).length ≤ i := by
  have := List.length_filter_le (fun s => extB n L want s) (List.range i)
  rwa [List.length_range] at this
theorem extF_sm {n : Nat} {L : List Bool} {want : Bool} (h : L.length ≤ 64) : Sm (extF n L want) := fun x hx => by
  unfold extF at hx
  have := List.mem_range.1 (List.mem_filter.1 hx).1
  omega
theorem extF_nd (n : Nat) (L : List Bool) (want : Bool) : (extF n L want).Nodup := (List.nodup_range).filter _
theorem valE_ok {m : Nat} {F : List D2} (hm : m ≤ 6) (h64 : F.length ≤ 64) (h : ∀ d ∈ F, d.1 < 2 ^ m ∧ d.2 < 2 ^ m) : valE m F = 0 := by
  unfold valE
  rw [if_neg (by omega), if_neg (by omega), Int.toNat_natCast, if_pos ?_]
  rw [List.all_eq_true]
  intro d hd
  have := h d hd
  rw [decide_eq_true_eq]
  exact Nat.div_eq_of_lt (Nat.or_lt_two_pow this.1 this.2)
theorem nodup_lt : ∀ (n : Nat) (l : List Nat), l.Nodup → (∀ x ∈ l, x < n) → l.length ≤ n
  | 0, l, _, h => by
    cases l with
    | nil => exact Nat.le_refl _
    | cons a r => exact absurd (h a List.mem_cons_self) (by omega)
  | n + 1, l, hn, h => by
    by_cases hm : n ∈ l
    · have h1 := nodup_lt n (l.erase n) (hn.erase n) (fun x hx => by
        have h2 := (hn.mem_erase_iff).1 hx
        have := h x h2.2
        have := h2.1
        omega)
      rw [List.length_erase_of_mem hm] at h1
      omega
    · have := nodup_lt n l hn (fun x hx => by
        have h1 := h x hx
        rcases Nat.lt_or_ge x n with h2 | h2
        · exact h2
        · obtain rfl : x = n := by omega
          exact absurd hx hm)
      omega
end Go.Ab.A20
