/- Plain law of values: what Parse answers. -/
import Derived.Test.YtpkdknfdhhgbgaaDoorP3
import Derived.Test.YtpkdknfdhhgbgaaDoorR9
set_option linter.unusedSimpArgs false
set_option linter.unusedVariables false
set_option linter.unusedSectionVars false
namespace Go.Proofs.YtpkdknfdhhgbgaaDoor
open Go Go.Ab Go.Ab.A01

theorem extr_list (s : ByteArray) (i j : Nat) : (s.extract i j).data.toList = (s.data.toList.drop i).take (j - i) := by
  rw [ByteArray.data_extract, Array.toList_extract, List.extract_eq_take_drop]
theorem len_list (s : ByteArray) : s.data.toList.length = s.size := Array.length_toList
theorem getD_get (l : List UInt8) {i : Nat} (h : i < l.length) : l.getD i 0 = l[i] := by simp [List.getD_eq_getElem?_getD, h]
theorem take_two {p r : List UInt8} {a b : UInt8} : ((p ++ a :: b :: r).drop p.length).take 2 = [a, b] := by
  rw [List.drop_left]
  rfl

/-- The byte behind a backslash and an x. -/
theorem hexP_of {s : ByteArray} {p r : List UInt8} {c : UInt8} (h : s.data.toList = p ++ 92 :: 120 :: hexd (c.toNat / 16) :: hexd (c.toNat % 16) :: r) : hexP s s.data.toList (p.length + 2) = c := by
  have c8 := c.toNat_lt
  have hl : s.size = p.length + (4 + r.length) := by
    rw [← len_list, h]
    simp only [List.length_append, List.length_cons]
    omega
  have e : (s.extract (min (p.length + 2) s.size) (min (p.length + 2 + 2) s.size)).data.toList = [hexd (c.toNat / 16), hexd (c.toNat % 16)] := by
    rw [extr_list, Nat.min_eq_left (by omega), Nat.min_eq_left (by omega), Nat.add_sub_cancel_left, h]
    have e2 : p ++ 92 :: 120 :: hexd (c.toNat / 16) :: hexd (c.toNat % 16) :: r = (p ++ [92, 120]) ++ hexd (c.toNat / 16) :: hexd (c.toNat % 16) :: r := by simp
    rw [e2]
    have := take_two (p := p ++ [92, 120]) (r := r) (a := hexd (c.toNat / 16)) (b := hexd (c.toNat % 16))
    rw [List.length_append] at this
    exact this
  unfold hexP puN
  rw [e, hex_two (by omega) (by omega)]
  show UInt8.ofNat (c.toNat / 16 * 16 + c.toNat % 16) = c
  have : c.toNat / 16 * 16 + c.toNat % 16 = c.toNat := by omega
  rw [this]
  simp

/-- The program's candidate. -/
def guessV (s : ByteArray) : Int × Int × ByteArray :=
  if s = ⟨#[110, 117, 108, 108]⟩ ∨ s = ⟨#[]⟩ then (0, 0, ⟨#[]⟩) else if s.data.toList.getD 0 0 = 34 then (2, 0, mkB (unqP (hexP s) s.data.toList s.size 1))
  else if s.data.toList.getD 0 0 = 63 then (3, pintV (s.extract 1 s.size), ⟨#[]⟩) else (1, pintV s, ⟨#[]⟩)

theorem emp_eq {t : ByteArray} (h : emp t = true) : t = ⟨#[]⟩ := barr_eq.1 h
theorem mkB_list (t : ByteArray) : mkB t.data.toList = t := ba_ext (by simp [mkB])
theorem quoteL_len (l : List UInt8) : (quoteL l).length ≤ 2 + 4 * l.length := by
  unfold quoteL
  have := flat_le l
  simp only [List.length_cons, List.length_append, List.length_nil]
  omega

/-- **The candidate of a value's text is the value.** -/
theorem guess_fmt {k n : Int} {t : ByteArray} (hv : vok k n t = true) (hn : In64 n) : guessV (fmtS k n t) = (k, n, t) := by
  rcases vok_kind hv with rfl | rfl | ⟨rfl, hs⟩ | rfl
  · unfold vok at hv
    rw [if_pos rfl, Bool.and_eq_true, decide_eq_true_eq] at hv
    rw [hv.1, emp_eq hv.2]
    rfl
  · unfold vok at hv
    rw [if_neg (by decide), if_pos rfl] at hv
    rw [emp_eq hv]
    have e : fmtS 1 n ⟨#[]⟩ = itoaS n := rfl
    rw [e]
    obtain ⟨c, r, h, hc⟩ := itoa_head n
    have hl : (itoaS n).data.toList = c :: r := h
    unfold guessV
    rw [if_neg, hl, List.getD_cons_zero, if_neg (fun x => by rw [x] at hc; revert hc; decide), if_neg (fun x => by rw [x] at hc; revert hc; decide), pintV_itoa n hn.1 hn.2]
    rintro (x | x)
    · rw [x] at hl
      have : (110 : UInt8) = c := by injection hl
      rw [← this] at hc
      revert hc; decide
    · rw [x] at hl
      cases hl
  · unfold vok at hv
    rw [if_neg (by decide), if_neg (by decide), if_pos rfl, Bool.and_eq_true, decide_eq_true_eq] at hv
    rw [hv.1]
    have e : fmtS 2 0 t = mkB (quoteL t.data.toList) := rfl
    rw [e]
    have hl : (mkB (quoteL t.data.toList)).data.toList = quoteL t.data.toList := by simp [mkB]
    have hq : quoteL t.data.toList = [34] ++ (t.data.toList.flatMap quote1 ++ [34]) := rfl
    have hu := unqP_quote (h := hexP (mkB (quoteL t.data.toList))) (s := quoteL t.data.toList) (fun p c r x => by
      have := hexP_of (s := mkB (quoteL t.data.toList)) (p := p) (r := r) (c := c) (by rw [hl]; exact x)
      rw [hl] at this
      exact this) t.data.toList [34] (mkB (quoteL t.data.toList)).size hq (by rw [← len_list, hl]; omega)
    unfold guessV
    rw [hl, if_neg, if_pos (show (quoteL t.data.toList).getD 0 0 = 34 from rfl)]
    · have hu2 : unqP (hexP (mkB (quoteL t.data.toList))) (quoteL t.data.toList) (mkB (quoteL t.data.toList)).size 1 = t.data.toList := hu
      rw [hu2, mkB_list]
    · rintro (x | x)
      · rw [x] at hl
        have : (110 : UInt8) = 34 := by injection hl
        revert this; decide
      · rw [x] at hl
        cases hl
  · unfold vok at hv
    rw [if_neg (by decide), if_neg (by decide), if_neg (by decide), if_pos rfl, Bool.and_eq_true, decide_eq_true_eq] at hv
    rw [emp_eq hv.2]
    have e : fmtS 3 n ⟨#[]⟩ = ⟨#[63]⟩ ++ itoaS n := rfl
    rw [e]
    have hl : ((⟨#[63]⟩ : ByteArray) ++ itoaS n).data.toList = 63 :: (itoaS n).data.toList := by
      rw [ByteArray.data_append, Array.toList_append]
      rfl
    have he : ((⟨#[63]⟩ : ByteArray) ++ itoaS n).extract 1 ((⟨#[63]⟩ : ByteArray) ++ itoaS n).size = itoaS n := by
      refine ba_ext ?_
      rw [extr_list, hl, List.drop_succ_cons, List.drop_zero, List.take_of_length_le]
      rw [← len_list, hl, List.length_cons]
      omega
    unfold guessV
    rw [if_neg, hl, List.getD_cons_zero, if_neg (by decide), if_pos rfl, he, pintV_itoa n hn.1 hn.2]
    rintro (x | x)
    · rw [x] at hl
      have : (110 : UInt8) = 63 := by injection hl
      revert this; decide
    · rw [x] at hl
      cases hl

theorem pintV_in (s : ByteArray) : In64 (pintV s) := by
  unfold pintV In64
  split
  · rename_i v h
    have := Lib.parseIntB_bounds h
    simp only [Nat.reduceSub] at this
    have e : ((2 ^ 63 : Nat) : Int) = 9223372036854775808 := by decide
    omega
  · unfold Lib.intSat
    split <;> decide
  · decide
theorem guess_in (s : ByteArray) : In64 (guessV s).2.1 := by
  unfold guessV
  split
  · exact ⟨by decide, by decide⟩
  · split
    · exact ⟨show (-9223372036854775808 : Int) ≤ 0 by decide, show (0 : Int) ≤ 9223372036854775807 by decide⟩
    · split
      · exact pintV_in _
      · exact pintV_in _

/-- A value's text. -/
def Good (s : ByteArray) (v : Int × Int × ByteArray) : Prop := vok v.1 v.2.1 v.2.2 = true ∧ In64 v.2.1 ∧ fmtS v.1 v.2.1 v.2.2 = s
theorem good_guess {s : ByteArray} {v : Int × Int × ByteArray} (h : Good s v) : guessV s = v := by
  obtain ⟨k, n, t⟩ := v
  rw [← h.2.2]
  exact guess_fmt h.1 h.2.1
/-- Parse. -/
def parseV (s : ByteArray) : (Int × Int × ByteArray) × Int := if vok (guessV s).1 (guessV s).2.1 (guessV s).2.2 = true ∧ fmtS (guessV s).1 (guessV s).2.1 (guessV s).2.2 = s then (guessV s, 0) else ((0, 0, ⟨#[]⟩), 2)
theorem parse_good {s : ByteArray} {v : Int × Int × ByteArray} (h : Good s v) : parseV s = (v, 0) := by
  unfold parseV
  rw [good_guess h, if_pos ⟨h.1, h.2.2⟩]
theorem parse_bad {s : ByteArray} (h : ∀ v, ¬ Good s v) : parseV s = ((0, 0, ⟨#[]⟩), 2) := by
  unfold parseV
  rw [if_neg (fun x => h (guessV s) ⟨x.1, guess_in s, x.2⟩)]
theorem parse_cases (s : ByteArray) : (∃ v, Good s v ∧ parseV s = (v, 0)) ∨ ((∀ v, ¬ Good s v) ∧ parseV s = ((0, 0, ⟨#[]⟩), 2)) := by
  by_cases h : Good s (guessV s)
  · exact .inl ⟨_, h, parse_good h⟩
  · have : ∀ v, ¬ Good s v := fun v hv => h (by rw [good_guess hv]; exact hv)
    exact .inr ⟨this, parse_bad this⟩
end Go.Proofs.YtpkdknfdhhgbgaaDoor
