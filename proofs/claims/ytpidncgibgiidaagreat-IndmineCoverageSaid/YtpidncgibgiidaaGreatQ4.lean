/- Several texts in one: KC, KD, E2, P5, HA, HB, HC, HD, P9, L0, HE, RA. -/
import Derived.Test.YtpidncgibgiidaaGreatQ3
import Derived.Test.YtpidncgibgiidaaGreatQ1
import Derived.Laws.Bits64
import Derived.Test.YtpidncgibgiidaaGreatZ10
import Derived.Test.YtpidncgibgiidaaGreatE1
import Derived.Test.YtpidncgibgiidaaGreatQ2
set_option linter.unusedSimpArgs false
set_option linter.unusedVariables false
set_option linter.unusedSectionVars false
set_option maxHeartbeats 4000000
set_option maxRecDepth 20000
namespace Go.Ab
open Go Go.Ab.A01
theorem xor_low {a : Nat} (h : a < 9223372036854775808) : a ^^^ 9223372036854775808 = a + 9223372036854775808 := by
  have p : (9223372036854775808 : Nat) = 2 ^ 63 := by decide
  rw [p] at h ⊢
  refine Nat.eq_of_testBit_eq fun i => ?_
  rw [Nat.testBit_xor, Nat.testBit_two_pow, Nat.add_comm]
  by_cases h1 : i = 63
  · subst h1
    rw [Nat.testBit_two_pow_add_eq]
    simp
  · rw [decide_eq_false (by omega), Bool.xor_false]
    rcases Nat.lt_or_gt_of_ne h1 with h2 | h2
    · rw [Nat.testBit_two_pow_add_gt h2]
    · have e1 : a.testBit i = false := Nat.testBit_lt_two_pow (Nat.lt_of_lt_of_le h (Nat.pow_le_pow_right (by decide) (by omega)))
      have e3 : 2 ^ 63 + a < 2 ^ 64 := by
        have : (2 : Nat) ^ 64 = 2 ^ 63 + 2 ^ 63 := by decide
        omega
      have e2 : (2 ^ 63 + a).testBit i = false := Nat.testBit_lt_two_pow (Nat.lt_of_lt_of_le e3 (Nat.pow_le_pow_right (by decide) (by omega)))
      rw [e1, e2]
theorem xor_high {a : Nat} (h : 9223372036854775808 ≤ a) (h2 : a < 18446744073709551616) : a ^^^ 9223372036854775808 = a - 9223372036854775808 := by
  have e := xor_low (a := a - 9223372036854775808) (by omega)
  have e2 : a - 9223372036854775808 + 9223372036854775808 = a := by omega
  rw [e2] at e
  conv => lhs; rw [← e]
  rw [Nat.xor_assoc, Nat.xor_self, Nat.xor_zero]
def unum (n : Int) : Nat := (n + 9223372036854775808).toNat
end Go.Ab
namespace Go.Ab
open Go Go.Ab.A01
theorem beL_get : ∀ (m u j : Nat), j < m → (beL m u).getD j 0 = UInt8.ofNat (u / 256 ^ (m - 1 - j) % 256)
  | 0, u, j, h => absurd h (by omega)
  | m + 1, u, 0, h => by rw [beL, List.getD_cons_zero]; rfl
  | m + 1, u, j + 1, h => by
    rw [beL, List.getD_cons_succ, beL_get m _ j (by omega)]
    congr 1
    have e : m + 1 - 1 - (j + 1) = m - 1 - j := by omega
    have e2 : (256 : Nat) ^ m = 256 ^ (m - 1 - j) * 256 ^ (j + 1) := by rw [← Nat.pow_add]; congr 1; omega
    rw [e, e2, Nat.mod_mul_right_div_self, Nat.mod_mod_of_dvd _ (Nat.dvd_of_pow_dvd (Nat.succ_pos j) (Nat.dvd_refl _))]
theorem num8_get (n : Int) {j : Nat} (h : j < 8) : (num8 n).getD j 0 = UInt8.ofNat (unum n / 2 ^ (56 - 8 * j) % 256) := by
  unfold num8
  rw [beL_get 8 _ j h]
  have e : (256 : Nat) ^ (8 - 1 - j) = 2 ^ (56 - 8 * j) := by
    rw [show (256 : Nat) = 2 ^ 8 by decide, ← Nat.pow_mul]
    congr 1
    omega
  rw [e]
  rfl
end Go.Ab
namespace Go.Proofs.YtpidncgibgiidaaGreat
open Go Go.Ab Go.Ab.A01
variable [Gl] [Tabs]
theorem unum_xor (n : Int) (hn : In64 n) : bits BinOp.xor IntKind.u64 (IntKind.u64.wrap n) 9223372036854775808 = (unum n : Int) := by
  unfold In64 at hn
  unfold unum
  rw [u64w]
  rcases Int.lt_or_le n 0 with h | h
  · have e : n % 18446744073709551616 = (((n + 18446744073709551616).toNat : Nat) : Int) := by omega
    have b := bits_xor_u64_nat (n + 18446744073709551616).toNat 9223372036854775808 (by omega) (by decide)
    rw [xor_high (by omega) (by omega), show ((9223372036854775808 : Nat) : Int) = 9223372036854775808 from rfl] at b
    rw [e, b]
    omega
  · have e : n % 18446744073709551616 = ((n.toNat : Nat) : Int) := by omega
    have b := bits_xor_u64_nat n.toNat 9223372036854775808 (by omega) (by decide)
    rw [xor_low (by omega), show ((9223372036854775808 : Nat) : Int) = 9223372036854775808 from rfl] at b
    rw [e, b]
    omega
theorem number_c (n : Int) (hn : In64 n) (l : List UInt8) (hl : l.length ≤ 1000) (x : SV) (h : Heap) (hA : Acc 1 x h [] l.length (byts l)) :
    Ab.Call Tryz.prog 181 [x, I64 n] h (fun r h' => Acc 1 r h' [] (l ++ num8 n).length (byts (l ++ num8 n))) := by
  have ux := unum_xor n hn
  have n8 := num8_len n
  have un : unum n < 18446744073709551616 := by unfold unum; unfold In64 at hn; omega
  refine Call.enter' (N := 22) (rs := [.tmp 4]) Tryz.func181 rfl rfl rfl (by decide) rfl ?_; simp only [argT]; have hD : (0 : Nat) = 0 := rfl
  repeat' first | (refine SW.seq_k fun K hK => ?_) | (refine SW.region ?_; try simp only [go_sem, hD, ux]) | (apply hK; clear hK K)
  refine SW.block ?_
  obtain ⟨I, hI⟩ : ∃ I : Nat → St → Prop, ∀ k S, I k S ↔ (∃ (j : Nat) (y : SV) (h' : Heap), k = 8 - j ∧ j ≤ 8 ∧ Acc 1 y h' [] (l ++ (num8 n).take j).length (byts (l ++ (num8 n).take j)) ∧ S = ⟨[(0, y), (5, U64 (unum n)), (6, I64 (56 - 8 * (j : Int)))], h'⟩) := ⟨fun k S => _, fun _ _ => Iff.rfl⟩
  refine SW.loop' I 8 ((hI _ _).2 ⟨0, x, h, rfl, Nat.zero_le _, by rw [List.take_zero, List.append_nil]; exact hA, rfl⟩) (by repeat' (first | exact rfl | exact trivial | constructor)) ?_
  intro k S hIn
  obtain ⟨j, y, h', rfl, hj, hB, rfl⟩ := (hI _ _).1 hIn
  clear hIn hA
  rcases Nat.lt_or_ge j 8 with h8 | h8
  · have h1i : (0 : Int) ≤ 56 - 8 * (j : Int) := by omega
    have w1 : IntKind.i64.wrap (56 - 8 * (j : Int) - 8) = 56 - 8 * ((j + 1 : Nat) : Int) := by rw [i64_wrap (by omega) (by omega)]; omega
    obtain ⟨c, hc⟩ : ∃ c, c = (num8 n).getD j 0 := ⟨_, rfl⟩
    have sl : (num8 n).take (j + 1) = (num8 n).take j ++ [c] := by
      have : j < (num8 n).length := by omega
      rw [List.take_add_one, hc]
      simp [List.getD_eq_getElem?_getD, this]
    have e1 : (56 - 8 * (j : Int)).toNat = 56 - 8 * j := by omega
    have e2 : min (56 - 8 * j) 64 = 56 - 8 * j := by omega
    have e3 : (unum n : Int).fdiv (2 ^ (56 - 8 * j)) = ((unum n / 2 ^ (56 - 8 * j) : Nat) : Int) := by
      rw [Int.fdiv_eq_ediv_of_nonneg _ (by exact_mod_cast Nat.zero_le _)]
      exact_mod_cast rfl
    have e4 : IntKind.u8.wrap ((unum n / 2 ^ (56 - 8 * j) : Nat) : Int) = (c.toNat : Int) := by
      rw [hc, num8_get n h8, UInt8.toNat_ofNat', IntKind.wrap_u8']
      omega
    have ll : ((num8 n).take j).length = j := by rw [List.length_take]; omega
    have la : (l ++ (num8 n).take j).length = l.length + j := by rw [List.length_append, ll]
    repeat' first | ((with_reducible refine appK_byts (l2 := [c]) hB ?_ ?_ ?_ ?_ ?_ ?_ ?_ ?_ ?_); (iterate 8 (first | rfl | exact hD | exact hD.1 | exact hD.2.1 | exact hD.2.2.1 | exact Nat.succ_pos _ | (simp only [List.length_cons, List.length_nil]; omega))); intro b' blk' h' h'' n3 hn3 hfind hcells hcv hB' hle; clear hB; have hB := hB'; clear hB'; (try simp only [go_sem, hD] at hcv); simp only [go_sem, hD, hfind, hcv]; ((first | apply hK | (clear hK K; apply hK) | (clear hK K; clear hK K; apply hK)); clear hK K); refine Ab.SW.le (hle _) ?_; clear hle hfind hcv hcells) | (refine SW.seq_k fun K hK => ?_) | (refine SW.block ?_) | ((first | refine SW.region ?_ | refine SW.cond ?_ | refine SW.skip ?_ | (refine allF_i fun b hb => ?_; replace hD := And.intro hb hD; clear hb; try simp only [fresh_cons, fresh_nil, and_true, ne_eq, neF] at hD)); try simp only [go_sem, hD, h1i, w1, e1, e2, e3, e4]) | (apply hK; clear hK K)
    rw [List.append_assoc, ← sl] at hB
    refine Rnd.sub (8 - (j + 1)) (by omega) ((hI _ _).2 ⟨j + 1, _, _, rfl, by omega, hB, rfl⟩) (by repeat' (first | exact rfl | exact trivial | constructor))
  · obtain rfl : j = 8 := by omega
    rw [List.take_of_length_le (by omega)] at hB
    have h1i : ¬ (0 : Int) ≤ 56 - 8 * ((8 : Nat) : Int) := by omega
    repeat' first | (refine SW.seq_k fun K hK => ?_) | ((first | refine SW.region ?_ | refine SW.cond ?_ | refine SW.exit ?_ | refine SW.ret ?_); try simp only [go_sem, hD, h1i]) | (apply hK; clear hK K) | (clear hK K; apply hK; clear hK K)
    refine retQ_ret ?_
    simp only [resL_tmp, resL_nil, tupOf, go_sem, hD]
    rw [List.length_append] at hB
    exact hB
theorem number_k (n : Int) (hn : In64 n) (l : List UInt8) (hl : l.length ≤ 1000) (x : SV) (h : Heap) (hA : Acc 1 x h [] l.length (byts l)) :
    Ab.Call Tryz.prog 181 [x, I64 n] h (fun r h' => ∃ b blk m, r = .os b 0 m 1 ∧ h' = [(b, blk)] ∧ cvtK blk 0 m = .ok True (Str (mkB (l ++ num8 n)))) :=
  Call.mono (number_c n hn l hl x h hA) fun r h' hB => by
    have hne : l ++ num8 n ≠ [] := fun e => by
      have := num8_len n
      rw [(List.append_eq_nil_iff.1 e).2] at this
      cases this
    rcases hB.byts_cases with ⟨e, _, _⟩ | ⟨b, _, e1, blk, hc, e2⟩
    · exact absurd e hne
    · exact ⟨b, blk, _, e1, e2, cvtK_of hc hne rfl⟩
theorem key_num (k n : Int) (hn : In64 n) (hk : k = 1 ∨ k = 3) (hv : vok k n ⟨#[]⟩ = true) : PCall Tryz.prog 138 [VS k n ⟨#[]⟩] (.tup [Str (mkB (keyL k n ⟨#[]⟩)), I64 0]) := by
  have v := valid_p k n ⟨#[]⟩
  rw [hv] at v
  rcases hk with rfl | rfl
  · have u1 : IntKind.u8.wrap 1 = 1 := by decide
    have kl : keyL 1 n ⟨#[]⟩ = [1] ++ num8 n := by unfold keyL; rw [if_pos (.inl rfl)]; rfl
    rw [kl]
    refine Call.enter' (N := 51) (rs := [.tmp 2, .tmp 3]) Tryz.func138 rfl rfl rfl (by decide) rfl ?_; simp only [argT]; have hD : (0 : Nat) = 0 := rfl
    repeat' first | (refine SW.seq_k fun K hK => ?_) | (refine SW.block ?_) | ((first | refine SW.region ?_ | refine SW.cond ?_ | refine SW.skip ?_ | refine Call.of_pure (v) ?_ | (refine allF_i fun b hb => ?_; replace hD := And.intro hb hD; clear hb; try simp only [fresh_cons, fresh_nil, and_true, ne_eq, neF] at hD)); try simp only [go_sem, hD, u1]) | (apply hK; clear hK K)
    rename_i b0
    refine Call.mono (Call.frame (h1 := [(b, Blk.svs [SV.sc (Value.int IntKind.u8 1)])]) (h2 := [(b0, _)]) (number_k n hn [1] (by decide) _ _ (.inr ⟨b, _, trivial, rfl, rfl, rfl, rfl, rfl⟩))) ?_
    rintro r h' ⟨h1', rfl, b2, blk, m, rfl, rfl, hcv⟩
    simp only [go_sem, hD] at hcv
    simp only [go_sem, hD]
    repeat' first | (refine SW.seq_k fun K hK => ?_) | ((first | refine SW.region ?_ | refine SW.ret ?_); try simp only [go_sem, hD, hcv]) | (apply hK; clear hK K)
    refine ret_pure ?_; simp only [resL_tmp, resL_nil, tupOf, go_sem, hD]
  · have u1 : IntKind.u8.wrap 3 = 3 := by decide
    have kl : keyL 3 n ⟨#[]⟩ = [3] ++ num8 n := by unfold keyL; rw [if_pos (.inr rfl)]; rfl
    rw [kl]
    refine Call.enter' (N := 51) (rs := [.tmp 2, .tmp 3]) Tryz.func138 rfl rfl rfl (by decide) rfl ?_; simp only [argT]; have hD : (0 : Nat) = 0 := rfl
    repeat' first | (refine SW.seq_k fun K hK => ?_) | (refine SW.block ?_) | ((first | refine SW.region ?_ | refine SW.cond ?_ | refine SW.skip ?_ | refine Call.of_pure (v) ?_ | (refine allF_i fun b hb => ?_; replace hD := And.intro hb hD; clear hb; try simp only [fresh_cons, fresh_nil, and_true, ne_eq, neF] at hD)); try simp only [go_sem, hD, u1]) | (apply hK; clear hK K)
    rename_i b0
    refine Call.mono (Call.frame (h1 := [(b, Blk.svs [SV.sc (Value.int IntKind.u8 3)])]) (h2 := [(b0, _)]) (number_k n hn [3] (by decide) _ _ (.inr ⟨b, _, trivial, rfl, rfl, rfl, rfl, rfl⟩))) ?_
    rintro r h' ⟨h1', rfl, b2, blk, m, rfl, rfl, hcv⟩
    simp only [go_sem, hD] at hcv
    simp only [go_sem, hD]
    repeat' first | (refine SW.seq_k fun K hK => ?_) | ((first | refine SW.region ?_ | refine SW.ret ?_); try simp only [go_sem, hD, hcv]) | (apply hK; clear hK K)
    refine ret_pure ?_; simp only [resL_tmp, resL_nil, tupOf, go_sem, hD]
theorem key_null : PCall Tryz.prog 138 [VS 0 0 ⟨#[]⟩] (.tup [Str (mkB (keyL 0 0 ⟨#[]⟩)), I64 0]) := by
  have v := valid_p 0 0 ⟨#[]⟩
  have e : vok 0 0 ⟨#[]⟩ = true := by decide +kernel
  rw [e] at v
  have u1 : IntKind.u8.wrap 0 = 0 := by decide
  have tb : (List.take 1 [SV.sc (Value.int IntKind.u8 0)]).all isByte = true := rfl
  refine Call.enter' (N := 51) (rs := [.tmp 2, .tmp 3]) Tryz.func138 rfl rfl rfl (by decide) rfl ?_; simp only [argT]; have hD : (0 : Nat) = 0 := rfl
  have tb2 : isByte (SV.sc (Value.int IntKind.u8 0)) = true := rfl
  repeat' first | (refine SW.seq_k fun K hK => ?_) | (refine SW.block ?_) | ((first | refine SW.region ?_ | refine SW.cond ?_ | refine SW.skip ?_ | refine SW.ret ?_ | refine Call.of_pure (v) ?_ | (refine allF_i fun b hb => ?_; replace hD := And.intro hb hD; clear hb; try simp only [fresh_cons, fresh_nil, and_true, ne_eq, neF] at hD)); try simp only [go_sem, hD, u1, tb, tb2]) | (apply hK; clear hK K)
  refine ret_pure ?_; simp only [resL_tmp, resL_nil, tupOf, go_sem, hD]
  rfl
end Go.Proofs.YtpidncgibgiidaaGreat
namespace Go.Ab
open Go Go.Ab.A01
theorem escL_step {l : List UInt8} {j : Nat} (h : j < l.length) : escL (l.take (j + 1)) = escL (l.take j) ++ (if l.getD j 0 = 0 then [0, 255] else [l.getD j 0]) := by
  unfold escL
  rw [List.take_add_one, List.flatMap_append]
  simp [List.getD_eq_getElem?_getD, h]
theorem escL_le (l : List UInt8) : (escL l).length ≤ 2 * l.length := by
  induction l with
  | nil => exact Nat.le_refl _
  | cons c l ih =>
    rw [escL_cons, List.length_append, List.length_cons]
    split
    · simp only [List.length_cons, List.length_nil]; omega
    · simp only [List.length_cons, List.length_nil]; omega
end Go.Ab
namespace Go.Proofs.YtpidncgibgiidaaGreat
open Go Go.Ab Go.Ab.A01
variable [Gl] [Tabs]
theorem key_text (s : ByteArray) (hs : s.size ≤ 200) (hv : vok 2 0 s = true) : PCall Tryz.prog 138 [VS 2 0 s] (.tup [Str (mkB (keyL 2 0 s)), I64 0]) := by
  have ls : s.data.toList.length = s.size := Array.length_toList
  have v := valid_p 2 0 s
  rw [hv] at v
  have u1 : IntKind.u8.wrap 2 = 2 := by decide
  have kl : keyL 2 0 s = (2 :: escL s.data.toList) ++ [0, 1] := rfl
  rw [kl]
  refine Call.enter' (N := 51) (rs := [.tmp 2, .tmp 3]) Tryz.func138 rfl rfl rfl (by decide) rfl ?_; simp only [argT]; have hD : (0 : Nat) = 0 := rfl
  repeat' first | (refine SW.seq_k fun K hK => ?_) | (refine SW.block ?_) | ((first | refine SW.region ?_ | refine SW.cond ?_ | refine SW.skip ?_ | refine Call.of_pure (v) ?_ | (refine allF_i fun b hb => ?_; replace hD := And.intro hb hD; clear hb; try simp only [fresh_cons, fresh_nil, and_true, ne_eq, neF] at hD)); try simp only [go_sem, hD, u1]) | (apply hK; clear hK K)
  rename_i b1 K hK
  obtain ⟨I, hI⟩ : ∃ I : Nat → St → Prop, ∀ k S, I k S ↔ (∃ (j b m : Nat) (blk : Blk), k = s.size - j ∧ j ≤ s.size ∧ fresh [(b1, .svs [I64 2, I64 0, Str s])] b ∧ m = (2 :: escL (s.data.toList.take j)).length ∧ blk.cells = byts (2 :: escL (s.data.toList.take j)) ∧
    S = ⟨[(1, .op b1 0), (4, .os b 0 m 1), (26, I64 s.size), (27, I64 j)], [(b, blk), (b1, .svs [I64 2, I64 0, Str s])]⟩) := ⟨fun k S => _, fun _ _ => Iff.rfl⟩
  refine SW.loop' I s.size ((hI _ _).2 ⟨0, b, 1, _, rfl, Nat.zero_le _, by simp only [fresh_cons, fresh_nil, and_true, ne_eq, neF]; simp_all, rfl, rfl, rfl⟩) (by repeat' (first | exact rfl | exact trivial | constructor)) ?_
  clear hD
  intro k S hIn
  obtain ⟨j, b0, m, blk, rfl, hj, hfr, hm, hcells, rfl⟩ := (hI _ _).1 hIn
  clear hIn
  have hD := hfr
  simp only [fresh_cons, fresh_nil, and_true, ne_eq, neF] at hD
  have hbM : blk.isM = false := by
    cases blk with
    | mp m => exact absurd (List.map_eq_nil_iff.1 hcells.symm) (by simp)
    | _ => rfl
  have hB : Acc 1 (.os b0 0 m 1) [(b0, blk), (b1, .svs [I64 2, I64 0, Str s])] [(b1, .svs [I64 2, I64 0, Str s])] (2 :: escL (s.data.toList.take j)).length (byts (2 :: escL (s.data.toList.take j))) :=
    .inr ⟨b0, blk, hfr, hcells, by rw [Nat.mul_one, byts_length], by rw [hm], rfl, hbM⟩
  have le := escL_le (s.data.toList.take j)
  have l2 : (s.data.toList.take j).length ≤ s.size := by rw [List.length_take]; omega
  clear hcells
  have ie : ((j : Nat) : Int).toNat = j := Int.toNat_natCast _
  have i0 : (0 : Int) ≤ ((j : Nat) : Int) := by omega
  by_cases hlt : j < s.size
  · have h1i : ((j : Nat) : Int) < ((s.size : Nat) : Int) := by omega
    have w1 : IntKind.i64.wrap ((j : Int) + 1) = ((j + 1 : Nat) : Int) := by rw [i64_wrap (by omega) (by omega)]; omega
    have st := escL_step (l := s.data.toList) (j := j) (by omega)
    obtain ⟨c, hc⟩ : ∃ c, c = s.data.toList.getD j 0 := ⟨_, rfl⟩
    rw [← hc] at st
    replace hc := hc.symm
    by_cases h0 : c = 0
    · subst h0
      have z : (((0 : UInt8).toNat : Nat) : Int) = 0 := rfl
      repeat' first | ((with_reducible refine appK_byts2 (l2 := [0]) hB ?_ ?_ ?_ ?_ ?_ ?_ ?_ ?_ ?_); (iterate 8 (first | rfl | exact hD | exact hD.1 | exact hD.2.1 | exact hD.2.2.1 | (simp only [fresh_cons, fresh_nil, and_true, ne_eq, neF]; first | exact hD | exact hD.1 | exact hD.1.1 | exact hD.2) | exact Nat.succ_pos _ | (simp only [List.length_append, List.length_cons, List.length_nil]; omega))); intro b' blk' h' n3 hn3 hfr hfind hcells hcv hB' hle; clear hB; have hB := hB'; clear hB'; replace hD := And.intro hfr hD; clear hfr; (simp only [fresh_cons, fresh_nil, and_true, ne_eq, neF] at hD); (try simp only [go_sem, hD] at hcv); simp only [go_sem, hD, hfind, hcv]; ((first | apply hK | (clear hK K; apply hK) | (clear hK K; clear hK K; apply hK)); clear hK K); refine Ab.SW.le (hle _) ?_; clear hle hfind hcv) | ((with_reducible refine appK_byts2 (l2 := [255]) hB ?_ ?_ ?_ ?_ ?_ ?_ ?_ ?_ ?_); (iterate 8 (first | rfl | exact hD | exact hD.1 | exact hD.2.1 | exact hD.2.2.1 | (simp only [fresh_cons, fresh_nil, and_true, ne_eq, neF]; first | exact hD | exact hD.1 | exact hD.1.1 | exact hD.2) | exact Nat.succ_pos _ | (simp only [List.length_append, List.length_cons, List.length_nil]; omega))); intro b' blk' h' n3 hn3 hfr hfind hcells hcv hB' hle; clear hB; have hB := hB'; clear hB'; replace hD := And.intro hfr hD; clear hfr; (simp only [fresh_cons, fresh_nil, and_true, ne_eq, neF] at hD); (try simp only [go_sem, hD] at hcv); simp only [go_sem, hD, hfind, hcv]; ((first | apply hK | (clear hK K; apply hK) | (clear hK K; clear hK K; apply hK)); clear hK K); refine Ab.SW.le (hle _) ?_; clear hle hfind hcv) | (refine SW.seq_k fun K hK => ?_) | (refine SW.block ?_) | ((first | refine SW.region ?_ | refine SW.cond ?_ | refine SW.skip ?_ | (refine allF_i fun b hb => ?_; replace hD := And.intro hb hD; clear hb; try simp only [fresh_cons, fresh_nil, and_true, ne_eq, neF] at hD)); try simp only [go_sem, hD, h1i, ie, i0, w1, hc, z]) | (apply hK; clear hK K)
      rw [if_pos rfl] at st
      have e : 2 :: escL (s.data.toList.take j) ++ [0] ++ [255] = 2 :: escL (s.data.toList.take (j + 1)) := by rw [st]; simp
      rw [e] at hcells hB
      have hn : n3 = (2 :: escL (s.data.toList.take (j + 1))).length := by rw [← e]; assumption
      refine Rnd.sub (s.size - (j + 1)) (by omega) ((hI _ _).2 ⟨j + 1, _, _, _, rfl, by omega, by simp only [fresh_cons, fresh_nil, and_true, ne_eq, neF]; exact hD.1, hn, hcells, rfl⟩) (by repeat' (first | exact rfl | exact trivial | constructor))
    · rw [if_neg h0] at st
      have z : ¬ ((c.toNat : Nat) : Int) = 0 := fun x => h0 (UInt8.toNat_inj.1 (show c.toNat = 0 by omega))
      repeat' first | ((with_reducible refine appK_byts2 (l2 := [c]) hB ?_ ?_ ?_ ?_ ?_ ?_ ?_ ?_ ?_); (iterate 8 (first | rfl | exact hD | exact hD.1 | exact hD.2.1 | exact hD.2.2.1 | (simp only [fresh_cons, fresh_nil, and_true, ne_eq, neF]; first | exact hD | exact hD.1 | exact hD.1.1 | exact hD.2) | exact Nat.succ_pos _ | (simp only [List.length_append, List.length_cons, List.length_nil]; omega))); intro b' blk' h' n3 hn3 hfr hfind hcells hcv hB' hle; clear hB; have hB := hB'; clear hB'; replace hD := And.intro hfr hD; clear hfr; (simp only [fresh_cons, fresh_nil, and_true, ne_eq, neF] at hD); (try simp only [go_sem, hD] at hcv); simp only [go_sem, hD, hfind, hcv]; ((first | apply hK | (clear hK K; apply hK) | (clear hK K; clear hK K; apply hK)); clear hK K); refine Ab.SW.le (hle _) ?_; clear hle hfind hcv) | (refine SW.seq_k fun K hK => ?_) | (refine SW.block ?_) | ((first | refine SW.region ?_ | refine SW.cond ?_ | refine SW.skip ?_ | (refine allF_i fun b hb => ?_; replace hD := And.intro hb hD; clear hb; try simp only [fresh_cons, fresh_nil, and_true, ne_eq, neF] at hD)); try simp only [go_sem, hD, h1i, ie, i0, w1, hc, z]) | (apply hK; clear hK K)
      have e : 2 :: escL (s.data.toList.take j) ++ [c] = 2 :: escL (s.data.toList.take (j + 1)) := by rw [st]; simp
      rw [e] at hcells hB
      have hn : n3 = (2 :: escL (s.data.toList.take (j + 1))).length := by rw [← e]; assumption
      refine Rnd.sub (s.size - (j + 1)) (by omega) ((hI _ _).2 ⟨j + 1, _, _, _, rfl, by omega, by simp only [fresh_cons, fresh_nil, and_true, ne_eq, neF]; exact hD.1, hn, hcells, rfl⟩) (by repeat' (first | exact rfl | exact trivial | constructor))
  · have h1i : ¬ ((j : Nat) : Int) < ((s.size : Nat) : Int) := by omega
    rw [List.take_of_length_le (by omega)] at hB hm le
    repeat' first | ((with_reducible refine appK_byts2 (l2 := [0, 1]) hB ?_ ?_ ?_ ?_ ?_ ?_ ?_ ?_ ?_); (iterate 8 (first | rfl | exact hD | exact hD.1 | exact hD.2.1 | exact hD.2.2.1 | (simp only [fresh_cons, fresh_nil, and_true, ne_eq, neF]; first | exact hD | exact hD.1 | exact hD.1.1 | exact hD.2) | exact Nat.succ_pos _ | (simp only [List.length_append, List.length_cons, List.length_nil]; omega))); intro b' blk' h' n3 hn3 hfr hfind hcells hcv hB' hle; clear hB; have hB := hB'; clear hB'; replace hD := And.intro hfr hD; clear hfr; (simp only [fresh_cons, fresh_nil, and_true, ne_eq, neF] at hD); (try simp only [go_sem, hD] at hcv); simp only [go_sem, hD, hfind, hcv]; ((first | apply hK | (clear hK K; apply hK) | (clear hK K; clear hK K; apply hK)); clear hK K); refine Ab.SW.le (hle _) ?_; clear hle hfind; refine stop_i ?_) | (refine SW.seq_k fun K hK => ?_) | ((first | refine SW.region ?_ | refine SW.cond ?_ | refine SW.exit ?_ | (refine allF_i fun b hb => ?_; replace hD := And.intro hb hD; clear hb; try simp only [fresh_cons, fresh_nil, and_true, ne_eq, neF] at hD)); try simp only [go_sem, hD, h1i]) | (apply hK; clear hK K) | (clear hK K; apply hK; clear hK K)
    refine ⟨?_⟩
    repeat' first | (refine SW.seq_k fun K hK => ?_) | ((first | refine SW.region ?_ | refine SW.ret ?_); try simp only [go_sem, hD, hcv]) | (apply hK; clear hK K)
    refine ret_pure ?_; simp only [resL_tmp, resL_nil, tupOf, go_sem, hD]
    rfl
end Go.Proofs.YtpidncgibgiidaaGreat
namespace Go.Ab
open Go Go.RowKit
section
variable {P : Program} {K : St → Prop} {t : List (Nat × SV)} {h h0 : Heap}
theorem len_nt {st : Bool} {L : TypeId × Nat × Nat} {A : Option (Nat × Nat)} : lenSV st (some L) A .nt = .ok True (.sc (.int .i64 0)) := rfl
theorem len_ot {st : Bool} {L : TypeId × Nat × Nat} {A : Option (Nat × Nat)} {b n : Nat} {e : TypeId} : lenSV st (some L) A (.ot b n e) = .ok True (.sc (.int .i64 n)) := rfl
theorem cells_nt : svCells .nt = some [.nt] := rfl
theorem cells_ot {b n : Nat} {e : TypeId} : svCells (.ot b n e) = some [.ot b n e] := rfl
theorem cells_opT {b n : Nat} {e : TypeId} : svCells (.opT b e n) = some [.opT b e n] := rfl
theorem single_nt : single .nt = true := rfl
theorem single_ot {b n : Nat} {e : TypeId} : single (.ot b n e) = true := rfl
theorem single_opT {b n : Nat} {e : TypeId} : single (.opT b e n) = true := rfl
attribute [go_sem] len_nt len_ot cells_nt cells_ot cells_opT single_nt single_ot single_opT
theorem byts_one (l : List UInt8) : (byts l).all single = true := by
  rw [List.all_eq_true]
  intro x hx
  simp only [byts, List.mem_map] at hx
  obtain ⟨c, _, rfl⟩ := hx
  rfl
theorem src_str (s : ByteArray) (h : Heap) : srcCells (.sc (.string s)) h = some (s.data.toList.length, byts s.data.toList) := by
  show some (s.size, _) = _
  rw [show s.data.toList.length = s.size from Array.length_toList]
  rfl
theorem src_ok (s : ByteArray) (h : Heap) : srcOk 1 (.sc (.string s)) h := by
  unfold srcOk
  rfl
theorem appK_ot [Gl] {g bytes e : Nat} {l l2 : List UInt8} {y : SV} {z : List Value} {d : Tmp} {blk : Blk} (hsrc : srcCells y h = some (l2.length, byts l2)) (hok : srcOk 1 y h) (hf : h.find g = some blk) (hc : blk.cells = byts l) (hz : z.length = 1)
    (hb : (l.length + l2.length) * bytes ≤ 140737488355328) (hn : l.length + l2.length ≤ 140737488355328)
    (hK : ∀ g' blk', fresh (h.del g) g' → blk'.cells = byts (l ++ l2) → K ⟨(d, .ot g' (l ++ l2).length e) :: t, h.ren g g' blk'⟩) :
    appK (some (e, 1, bytes)) (some z) true (.ot g l.length e) y (some d) K ⟨t, h⟩ := by
  unfold appK
  simp only [hsrc]
  refine ⟨trivial, hok, byts_one l2, hz, Nat.one_pos, ?_⟩
  unfold appOtK
  simp only [hf]
  refine ⟨trivial, trivial, by rw [← Blk.length_cells, hc]; simp [byts], hb, hn, fun g' hfr => ?_⟩
  rw [← List.length_append]
  exact hK g' _ hfr (by rw [appB_cells, hc]; simp [byts])
theorem appK_nt [Gl] {bytes e : Nat} {l2 : List UInt8} {y : SV} {z : List Value} {d : Tmp} (hsrc : srcCells y h = some (l2.length, byts l2)) (hok : srcOk 1 y h) (hpos : 0 < l2.length) (hz : z.length = 1)
    (hb : l2.length * bytes ≤ 140737488355328) (hn : l2.length ≤ 140737488355328)
    (hK : ∀ g' blk', fresh h g' → blk'.cells = byts l2 → K ⟨(d, .ot g' l2.length e) :: t, (g', blk') :: h⟩) :
    appK (some (e, 1, bytes)) (some z) true .nt y (some d) K ⟨t, h⟩ := by
  unfold appK
  simp only [hsrc]
  refine ⟨trivial, hok, byts_one l2, hz, Nat.one_pos, ?_⟩
  unfold appNtK
  exact ⟨rfl, hb, hn, fun x => by omega, fun _ g' hfr => hK g' _ hfr (newB_cells _)⟩
end
end Go.Ab
namespace Go.Proofs.YtpidncgibgiidaaGreat
open Go Go.Ab Go.Ab.A34
variable [Gl] [Tabs]
def BH (b : Nat) (l : List UInt8) (h h0 : Heap) : Prop :=
  (l = [] ∧ h = (b, .svs [.sc (.pointer none), .nt]) :: h0) ∨
  (l ≠ [] ∧ ∃ g blk, fresh h0 g ∧ g ≠ b ∧ blk.cells = byts l ∧ h = (b, .svs [.op b 0, .ot g l.length 5]) :: (g, blk) :: h0)
abbrev BP (b : Nat) : SV := .opT b 167 2
theorem wstr_c (b : Nat) (l : List UInt8) (h h0 : Heap) (hB : BH b l h h0) (hf0 : fresh h0 b) (s : ByteArray) (h1 : 1 ≤ s.size) (hs : l.length + s.size ≤ 1000000) :
    Ab.Call Tryz.prog 139 [BP b, Str s] h (fun r h' => r = .tup [I64 s.size, .sc .nilIface] ∧ BH b (l ++ s.data.toList) h' h0) := by
  have hsl : s.size = s.data.toList.length := by rw [len_list]
  have hne : l ++ s.data.toList ≠ [] := fun e => by
    have := congrArg List.length e
    rw [List.length_append, List.length_nil] at this
    omega
  have hp1 : 0 < s.data.toList.length := by omega
  have hz1 : ([Value.int IntKind.u8 0] : List Value).length = 1 := rfl
  rcases hB with ⟨rfl, rfl⟩ | ⟨hl, g, blk, hf, hg, hc, rfl⟩
  · have hb1 : s.data.toList.length * 1 ≤ 140737488355328 := by omega
    have hn1 : s.data.toList.length ≤ 140737488355328 := by omega
    refine Call.enter' (N := 19) (rs := [.tmp 4, .tmp 5]) Tryz.func139 rfl rfl rfl (by decide) rfl ?_; simp only [argT]; have hD : (0 : Nat) = 0 := rfl
    repeat' first | (with_reducible refine Call.mono (copy_new b SV.nt h0) ?_; intro r h' hx; obtain ⟨rfl, rfl⟩ := hx) | (with_reducible refine appK_nt (l2 := s.data.toList) (src_str _ _) (src_ok _ _) hp1 hz1 hb1 hn1 ?_; intro g' blk' hfr hcl; refine stop_i ?_) | (refine SW.seq_k fun K hK => ?_) | (refine SW.region ?_; try simp only [go_sem, hD, true_implies]) | (apply hK; clear hK K)
    refine Stop.mk ?_
    have hf1 : ¬ g' = b := hfr.1.2
    simp only [go_sem, hD, hf1]
    (first | apply hK | (clear hK K; apply hK) | (clear hK K; clear hK K; apply hK)); clear hK K
    repeat' first | (refine SW.seq_k fun K hK => ?_) | ((first | refine SW.region ?_ | refine SW.ret ?_); try simp only [go_sem, hD]) | (apply hK; clear hK K)
    refine retQ_le (S' := ⟨_, (b, .svs [.op b 0, .ot g' s.data.toList.length 5]) :: (g', blk') :: h0⟩) (St.le_perm (List.Perm.swap ..)) ?_
    simp only [resL_tmp, resL_nil, tupOf, go_sem, hD]
    refine .inr ⟨by rw [List.nil_append] at hne; exact hne, g', blk', hfr.2, hf1, hcl, rfl⟩
  · have hgb : ¬ b = g := fun x => hg x.symm
    have hb1 : (l.length + s.data.toList.length) * 1 ≤ 140737488355328 := by omega
    have hn1 : l.length + s.data.toList.length ≤ 140737488355328 := by omega
    have hfd : Heap.find ((b, Blk.svs [.op b 0, .ot g l.length 5]) :: (g, blk) :: h0) g = some blk := by rw [find_cons, if_neg hgb, find_cons, if_pos rfl]
    refine Call.enter' (N := 19) (rs := [.tmp 4, .tmp 5]) Tryz.func139 rfl rfl rfl (by decide) rfl ?_; simp only [argT]; have hD : (0 : Nat) = 0 := rfl
    repeat' first | (with_reducible refine Call.mono (copy_used b (SV.ot g l.length 5) ((g, blk) :: h0)) ?_; intro r h' hx; obtain ⟨rfl, rfl⟩ := hx) | (with_reducible refine appK_ot (l2 := s.data.toList) (blk := blk) (src_str _ _) (src_ok _ _) hfd hc hz1 hb1 hn1 ?_; intro g' blk' hfr hcl; refine stop_i ?_) | (refine SW.seq_k fun K hK => ?_) | (refine SW.region ?_; try simp only [go_sem, hD, true_implies, hgb]) | (apply hK; clear hK K)
    refine Stop.mk ?_
    rw [del_cons, if_neg hgb, del_cons, if_pos rfl] at hfr
    have hf1 : ¬ g' = b := hfr.1.2
    have hf2 : ¬ b = g' := hfr.1.1
    simp only [go_sem, hD, hf1, hf2, hgb]
    (first | apply hK | (clear hK K; apply hK) | (clear hK K; clear hK K; apply hK)); clear hK K
    repeat' first | (refine SW.seq_k fun K hK => ?_) | ((first | refine SW.region ?_ | refine SW.ret ?_); try simp only [go_sem, hD]) | (apply hK; clear hK K)
    refine retQ_ret ?_
    simp only [resL_tmp, resL_nil, tupOf, go_sem, hD]
    refine .inr ⟨hne, g', blk', hfr.2, hf1, hcl, by rw [List.length_append]⟩
end Go.Proofs.YtpidncgibgiidaaGreat
namespace Go.Ab.A15
def Agr {α : Type} (z : α) (a b : List Int) (x y : List α) : Prop := ∀ i, i < a.length → x.getD (a.getD i 0).toNat z = y.getD (b.getD i 0).toNat z
end Go.Ab.A15
namespace Go.Ab.A15
open Go Go.Ab Go.Ab.A34 Go.Ab.A01
def kL (v : V3) : List UInt8 := keyL v.1 v.2.1 v.2.2
def catK (r : R3) (a : List Int) : List UInt8 := a.flatMap fun x => kL (r.2.getD x.toNat v0)
def inV (v : V3) : Prop := -9223372036854775808 ≤ v.2.1 ∧ v.2.1 ≤ 9223372036854775807
structure OkR (r : R3) : Prop where
  v : ∀ v ∈ r.2, okV v = true
  n : ∀ v ∈ r.2, inV v
theorem kL_len {v : V3} (h : okV v = true) : 1 ≤ (kL v).length ∧ (kL v).length ≤ 500 := by
  have h2 : v.2.2.data.toList.length = v.2.2.size := Array.length_toList
  have h3 := okV_size h
  have h4 := num8_len v.2.1
  have h5 : ∀ l : List UInt8, (escL l).length ≤ 2 * l.length := fun l => by
    induction l with
    | nil => exact Nat.le_refl _
    | cons c l ih =>
      rw [escL_cons, List.length_append, List.length_cons]
      split <;> simp <;> omega
  have h6 := h5 v.2.2.data.toList
  unfold kL keyL
  rw [List.length_cons]
  split
  · omega
  · split
    · rw [List.length_append]
      simp
      omega
    · simp
theorem kL_inj {v w : V3} {x y : List UInt8} (hv : okV v = true) (hw : okV w = true) (nv : inV v) (nw : inV w) (h : kL v ++ x = kL w ++ y) : v = w ∧ x = y := by
  have e1 := from_key (k := v.1) (n := v.2.1) (t := v.2.2) hv nv x
  have e2 := from_key (k := w.1) (n := w.2.1) (t := w.2.2) hw nw y
  have h' : keyL v.1 v.2.1 v.2.2 ++ x = keyL w.1 w.2.1 w.2.2 ++ y := h
  rw [h', e2] at e1
  have e : v = w := by
    simp only [Prod.mk.injEq] at e1
    obtain ⟨⟨a1, a2, a3⟩, _⟩ := e1
    obtain ⟨k, n, t⟩ := v
    obtain ⟨k', n', t'⟩ := w
    simp only at a1 a2 a3
    rw [a1, a2, a3]
  subst e
  exact ⟨rfl, List.append_cancel_left h⟩
theorem catK_inj {r q : R3} (hr : OkR r) (hq : OkR q) : ∀ {a b : List Int}, a.length = b.length → (∀ x ∈ a, 0 ≤ x ∧ x < r.2.length) → (∀ x ∈ b, 0 ≤ x ∧ x < q.2.length) → (catK r a = catK q b ↔ Agr v0 a b r.2 q.2)
  | [], [], _, _, _ => ⟨fun _ i hi => absurd hi (Nat.not_lt_zero _), fun _ => rfl⟩
  | [], _ :: _, h, _, _ => by simp at h
  | _ :: _, [], h, _, _ => by simp at h
  | x :: a, y :: b, h, ha, hb => by
    have hx := ha x List.mem_cons_self
    have hy := hb y List.mem_cons_self
    have mx : r.2.getD x.toNat v0 ∈ r.2 := getD_mem v0 (by omega)
    have my : q.2.getD y.toNat v0 ∈ q.2 := getD_mem v0 (by omega)
    have ih := catK_inj hr hq (a := a) (b := b) (by simpa using h) (fun z hz => ha z (List.mem_cons_of_mem _ hz)) (fun z hz => hb z (List.mem_cons_of_mem _ hz))
    have ex : catK r (x :: a) = kL (r.2.getD x.toNat v0) ++ catK r a := by unfold catK; rw [List.flatMap_cons]
    have ey : catK q (y :: b) = kL (q.2.getD y.toNat v0) ++ catK q b := by unfold catK; rw [List.flatMap_cons]
    rw [ex, ey]
    constructor
    · intro e
      obtain ⟨e1, e2⟩ := kL_inj (hr.v _ mx) (hq.v _ my) (hr.n _ mx) (hq.n _ my) e
      have h2 := ih.1 e2
      intro i hi
      cases i with
      | zero => simpa using e1
      | succ i =>
        have := h2 i (by simpa using hi)
        simpa using this
    · intro hA
      have h0 := hA 0 (by simp)
      simp only [List.getD_cons_zero] at h0
      rw [h0, ih.2 fun i hi => by
        have := hA (i + 1) (by simpa using hi)
        simpa using this]
theorem catK_take (r : R3) (a : List Int) (i : Nat) (h : i < a.length) : catK r (a.take (i + 1)) = catK r (a.take i) ++ kL (r.2.getD (a.getD i 0).toNat v0) := by
  have g : a.getD i 0 = a[i] := by simp [List.getD_eq_getElem?_getD, h]
  unfold catK
  rw [List.take_succ_eq_append_getElem h, List.flatMap_append, g]
  simp
theorem catK_len {r : R3} (hr : OkR r) {a : List Int} (ha : ∀ x ∈ a, 0 ≤ x ∧ x < r.2.length) : (catK r a).length ≤ 500 * a.length := by
  unfold catK
  induction a with
  | nil => exact Nat.le_refl _
  | cons x a ih =>
    have hx := ha x List.mem_cons_self
    have := (kL_len (hr.v _ (getD_mem v0 (show x.toNat < r.2.length by omega)))).2
    have := ih fun z hz => ha z (List.mem_cons_of_mem _ hz)
    rw [List.flatMap_cons, List.length_append, List.length_cons]
    omega
end Go.Ab.A15
namespace Go.Proofs.YtpidncgibgiidaaGreat
open Go Go.Ab Go.Ab.A34 Go.Ab.A15 Go.Ab.A01
variable [Gl] [Tabs]
theorem key_v (v : V3) (h : okV v = true) (hn : inV v) : PCall Tryz.prog 138 [VV v] (.tup [Str (mkB (kL v)), I64 0]) := by
  obtain ⟨k, n, s⟩ := v
  have hv : vok k n s = true := h
  have hem : emp s = true → s = ⟨#[]⟩ := fun h => barr_eq.1 h
  rcases vok_kind hv with rfl | rfl | ⟨rfl, h2⟩ | rfl
  · have h1 : n = 0 ∧ s = ⟨#[]⟩ := by
      unfold vok at hv
      simp only [Bool.and_eq_true, decide_eq_true_eq, if_true] at hv
      exact ⟨hv.1, hem hv.2⟩
    obtain ⟨rfl, rfl⟩ := h1
    exact key_null
  · have h1 : s = ⟨#[]⟩ := by
      unfold vok at hv
      exact hem (by simpa using hv)
    subst h1
    exact key_num 1 n hn (.inl rfl) hv
  · have h1 : n = 0 := by
      unfold vok at hv
      simp at hv
      exact hv.1
    subst h1
    exact key_text s h2 hv
  · have h1 : s = ⟨#[]⟩ := by
      unfold vok at hv
      simp at hv
      exact hem hv.2
    subst h1
    exact key_num 3 n hn (.inr rfl) hv
theorem key_p (r : R3) (a : List Int) (hr : OkR r) (ha : ∀ x ∈ a, 0 ≤ x ∧ x < r.2.length) (hal : a.length ≤ 1000) : PCall Tryz.prog 107 [.agg [I64 r.1, VL r.2], IL a] (Str (mkB (catK r a))) := by
  have hlen := catK_len hr ha
  obtain ⟨id, vs⟩ := r
  simp only at ha
  refine Call.enter' (N := 29) (rs := [.tmp 4]) Tryz.func107 rfl rfl rfl (by decide) rfl ?_; simp only [argT]; have hD : (0 : Nat) = 0 := rfl
  repeat' first | (refine SW.seq_k fun K hK => ?_) | (refine SW.block ?_) | ((first | refine SW.region ?_ | (refine allF_i fun b hb => ?_; replace hD := And.intro hb hD; clear hb; try simp only [fresh_cons, fresh_nil, and_true, ne_eq, neF] at hD)); try simp only [go_sem, hD, true_implies]) | (apply hK; clear hK K)
  obtain ⟨bb, rfl⟩ : ∃ x, x = b := ⟨_, rfl⟩
  obtain ⟨b2, rfl⟩ : ∃ x, x = b := ⟨_, rfl⟩
  refine Ab.SW.le (S' := ⟨[(1, IL a), (2, .fp [I64 id, VL vs]), (5, BP bb), (4, Str ⟨#[]⟩), (10, IL a), (11, I64 a.length), (12, I64 (0 : Nat))], [(bb, .svs [.sc (.pointer none), .nt])]⟩) ?_ ?_
  · refine St.le.trans (St.le_freezeP (i := 2) (b := b2) (off := 0) (n := 2) (k := .svs [I64 id, VL vs]) rfl (by simp [find_cons, hD]) (by exact Nat.le_refl 2)) ?_
    simp only [getN, Blk.get, go_sem, hD]
    exact St.le_sub (by repeat' (first | exact rfl | exact trivial | constructor))
  clear hD
  have hD : (0 : Nat) = 0 := rfl
  obtain ⟨I, hI⟩ : ∃ I : Nat → St → Prop, ∀ k S, I k S ↔ (∃ (i : Nat) (h : Heap), k = a.length - i ∧ i ≤ a.length ∧ BH bb (catK (id, vs) (a.take i)) h [] ∧ S = ⟨[(1, IL a), (2, .fp [I64 id, VL vs]), (5, BP bb), (4, Str ⟨#[]⟩), (10, IL a), (11, I64 a.length), (12, I64 i)], h⟩) := ⟨fun k S => _, fun _ _ => Iff.rfl⟩
  refine SW.loop' I (a.length) ((hI _ _).2 ⟨0, _, rfl, Nat.zero_le _, .inl ⟨rfl, rfl⟩, rfl⟩) (by repeat' (first | exact rfl | exact trivial | constructor)) ?_
  intro k S hIn
  obtain ⟨i, h, rfl, hi, hB, rfl⟩ := (hI _ _).1 hIn
  clear hIn
  have ie : ((i : Nat) : Int).toNat = i := Int.toNat_natCast _
  have i0 : (0 : Int) ≤ ((i : Nat) : Int) := by omega
  by_cases hlt : i < a.length
  · have hli : ((i : Nat) : Int) < (((a.length) : Nat) : Int) := by omega
    have w1 : IntKind.i64.wrap ((i : Int) + 1) = ((i + 1 : Nat) : Int) := by rw [i64_wrap (by omega) (by omega)]; omega
    have fa : iF a i = [I64 (a.getD i 0)] := rfl
    have hx := ha _ (getD_mem' 0 hlt)
    have hst := catK_take (id, vs) a i hlt
    have hcl := catK_len hr (a := a.take i) (fun x hx => ha x (List.mem_of_mem_take hx))
    rw [List.length_take] at hcl
    generalize a.getD i 0 = x at *
    obtain ⟨x0, x1⟩ := hx
    have mx : vs.getD x.toNat v0 ∈ vs := getD_mem v0 (by omega)
    have fv : vF vs x.toNat = vC (vs.getD x.toNat v0) := rfl
    have kv := key_v _ (hr.v _ mx) (hr.n _ mx)
    have hkl := kL_len (hr.v _ mx)
    simp only at hst
    generalize vs.getD x.toNat v0 = v at *
    obtain ⟨v1, v2, v3⟩ := v
    have hms := mkB_size (kL (v1, v2, v3))
    have ws := wstr_c bb _ h [] hB trivial (mkB (kL (v1, v2, v3))) (by omega) (by omega)
    have hml : (mkB (kL (v1, v2, v3))).data.toList = kL (v1, v2, v3) := by simp [mkB]
    rw [hml, ← hst] at ws
    generalize mkB (kL (v1, v2, v3)) = m at *
    clear hB
    repeat' first | ((with_reducible refine Call.mono ws ?_); intro r h' hx; obtain ⟨rfl, hB2⟩ := hx; (try simp only [go_sem, hD])) | (refine SW.seq_k fun K hK => ?_) | (refine SW.block ?_) | ((first | refine SW.region ?_ | refine SW.cond ?_ | refine SW.skip ?_ | refine Call.of_pure (kv) ?_); try simp only [go_sem, hD, hli, ie, i0, w1, fa, x0, x1, fv, true_implies]) | (apply hK; clear hK K)
    refine Rnd.sub (a.length - (i + 1)) (by omega) ((hI _ _).2 ⟨i + 1, h', rfl, by omega, hB2, rfl⟩) (by repeat' (first | exact rfl | exact trivial | constructor))
  · have hli : ¬ ((i : Nat) : Int) < (((a.length) : Nat) : Int) := by omega
    obtain rfl : i = a.length := by omega
    rw [List.take_length] at hB
    have hll : (catK (id, vs) a).length ≤ 1000000 := by omega
    generalize catK (id, vs) a = l at *
    rcases hB with ⟨rfl, rfl⟩ | ⟨hl, g, blk, hf, hg, hc, rfl⟩
    · have cs := string_n bb (.sc (.pointer none)) []
      repeat' first | ((with_reducible refine Call.mono cs ?_); intro r h' hx; obtain ⟨rfl, rfl⟩ := hx; (try simp only [go_sem, hD])) | (refine SW.seq_k fun K hK => ?_) | ((first | refine SW.region ?_ | refine SW.cond ?_ | refine SW.exit ?_ | refine SW.ret ?_); try simp only [go_sem, hD, hli, true_implies]) | (apply hK; clear hK K) | (clear hK K; apply hK; clear hK K)
      refine ret_pure ?_; simp only [resL_tmp, resL_nil, tupOf, go_sem, hD]
      rfl
    · have cs := string_c bb g (.op bb 0) blk l hl hll hc []
      repeat' first | ((with_reducible refine Call.mono cs ?_); intro r h' hx; obtain ⟨rfl, rfl⟩ := hx; (try simp only [go_sem, hD])) | (refine SW.seq_k fun K hK => ?_) | ((first | refine SW.region ?_ | refine SW.cond ?_ | refine SW.exit ?_ | refine SW.ret ?_); try simp only [go_sem, hD, hli, true_implies]) | (apply hK; clear hK K) | (clear hK K; apply hK; clear hK K)
      refine ret_pure ?_; simp only [resL_tmp, resL_nil, tupOf, go_sem, hD]
      rfl
end Go.Proofs.YtpidncgibgiidaaGreat
namespace Go.Ab
theorem cmpV_zero {k n : Int} {s : ByteArray} {k' n' : Int} {s' : ByteArray} : cmpV k n s k' n' s' = 0 ↔ k = k' ∧ n = n' ∧ s = s' := by
  unfold cmpV
  constructor
  · intro h
    split at h
    · rename_i h1
      split at h
      · rename_i h2
        refine ⟨sgn_zero.1 h1, sgn_zero.1 h2, ?_⟩
        rcases cb_cases s.data.toList s'.data.toList with h3 | ⟨_, h3⟩ | h3
        · omega
        · cases s; cases s'; simp only at h3; rw [Array.toList_inj.1 h3]
        · omega
      · rename_i h2; exact absurd h h2
    · rename_i h1; exact absurd h h1
  · rintro ⟨rfl, rfl, rfl⟩
    rw [if_pos (sgn_zero.2 rfl), if_pos (sgn_zero.2 rfl)]
    rcases cb_cases s.data.toList s.data.toList with h3 | ⟨h3, _⟩ | h3
    · have h4 : ∀ l : List UInt8, Lib.compareBytes l l = 0 := fun l => by
        induction l with
        | nil => rfl
        | cons c l ih => unfold Lib.compareBytes; simp [ih]
      exact h4 _
    · exact h3
    · have h4 : ∀ l : List UInt8, Lib.compareBytes l l = 0 := fun l => by
        induction l with
        | nil => rfl
        | cons c l ih => unfold Lib.compareBytes; simp [ih]
      exact h4 _
end Go.Ab
namespace Go.Ab.A15
open Go Go.Ab Go.Ab.A34
def agB (a b : List Int) (x y : List V3) : Bool := (List.range a.length).all fun i => decide (x.getD (a.getD i 0).toNat v0 = y.getD (b.getD i 0).toNat v0)
theorem agB_iff {a b : List Int} {x y : List V3} : agB a b x y = true ↔ Agr v0 a b x y := by
  unfold agB Agr
  simp [List.all_eq_true]
def violP (F T : List R3) (a b : List Int) (i : Nat) : List Int := ((F.take i).filter fun x => !(T.any fun y => agB a b x.2 y.2)).map (·.1)
def violS (F T : List R3) (a b : List Int) : List Int := violP F T a b F.length
theorem violP_succ {F T : List R3} {a b : List Int} {i : Nat} (h : i < F.length) : violP F T a b (i + 1) = if (T.any fun y => agB a b (F.getD i r0).2 y.2) = true then violP F T a b i else violP F T a b i ++ [(F.getD i r0).1] := by
  have g : F.getD i r0 = F[i] := by simp [List.getD_eq_getElem?_getD, h]
  unfold violP
  rw [List.take_succ_eq_append_getElem h, List.filter_append, List.map_append, g]
  by_cases hc : (T.any fun y => agB a b F[i].2 y.2) = true
  · rw [if_pos hc]; simp [hc]
  · rw [if_neg hc]; simp [hc]
theorem violP_len (F T : List R3) (a b : List Int) (i : Nat) : (violP F T a b i).length ≤ i := by
  unfold violP
  rw [List.length_map]
  refine Nat.le_trans (List.length_filter_le _ _) ?_
  rw [List.length_take]
  omega
theorem any_succ {T : List R3} {p : R3 → Bool} {k : Nat} (h : k < T.length) : (T.take (k + 1)).any p = ((T.take k).any p || p (T.getD k r0)) := by
  have g : T.getD k r0 = T[k] := by simp [List.getD_eq_getElem?_getD, h]
  rw [List.take_succ_eq_append_getElem h, List.any_append, g]
  simp
end Go.Ab.A15
def Go.Ab.zHB_1 : Go.Ab.OZ := (.one 0 [0, 1, 7, 8, 18, 19] (.one 1 [1, 7, 8, 18, 19] (.one 2 [2, 3, 5, 6, 7, 8, 18, 19] (.one 3 [3, 5, 6, 7, 8, 18, 19] (.one 4 [4, 5, 6, 7, 8, 18, 19] (.one 5 [5, 6, 7, 8, 18, 19] (.one 6 [6, 7, 8, 18, 19] (.one 7 [7, 8, 18, 19] (.one 8 [8, 18, 19] (.one 9 [9, 10, 16, 17, 18, 19] (.one 10 [10, 16, 17, 18, 19] (.one 11 [11, 12, 14, 15, 16, 17, 18, 19] (.one 12 [12, 14, 15, 16, 17, 18, 19] (.one 13 [13, 14, 15, 16, 17, 18, 19] (.one 14 [14, 15, 16, 17, 18, 19] (.one 15 [15, 16, 17, 18, 19] (.one 16 [16, 17, 18, 19] (.one 17 [17, 18, 19] (.one 18 [18, 19] (.one 19 [19] .done))))))))))))))))))))
namespace Go.Proofs.YtpidncgibgiidaaGreat
open Go Go.Ab Go.Ab.A34 Go.Ab.A15
variable [Gl] [Tabs]
theorem partner_r (d : Dp) (x y : R3) (hlr : d.l.length = d.r.length) (hll : d.l.length ≤ 1000) (hl : ∀ a ∈ d.l, 0 ≤ a ∧ a < x.2.length) (hr : ∀ a ∈ d.r, 0 ≤ a ∧ a < y.2.length) (ox : ∀ v ∈ x.2, okV v = true) (oy : ∀ v ∈ y.2, okV v = true) :
    PCall Tryz.prog 103 [DV d, .agg [I64 x.1, VL x.2], .agg [I64 y.1, VL y.2]] (SB (agB d.l d.r x.2 y.2)) := by
  obtain ⟨R, hR⟩ : ∃ R, R = agB d.l d.r x.2 y.2 := ⟨_, rfl⟩
  rw [← hR]
  have hbad : ∀ i, i < d.l.length → ¬ x.2.getD (d.l.getD i 0).toNat v0 = y.2.getD (d.r.getD i 0).toNat v0 → R = false := fun i hi hn => by
    rw [hR, Bool.eq_false_iff]
    intro h
    exact hn (agB_iff.1 h i hi)
  have hgood : (∀ i, i < d.l.length → x.2.getD (d.l.getD i 0).toNat v0 = y.2.getD (d.r.getD i 0).toNat v0) → R = true := fun h => by rw [hR]; exact agB_iff.2 h
  clear hR
  obtain ⟨xi, xs⟩ := x
  obtain ⟨yi, ys⟩ := y
  obtain ⟨df, dl, dt, dr⟩ := d
  simp only at *
  refine Call.enter' (N := 35) (rs := [.tmp 6]) Tryz.func103 rfl rfl rfl (by decide) rfl ?_; simp only [argT]; have hD : (0 : Nat) = 0 := rfl
  repeat' first | (refine SW.seq_k fun K hK => ?_) | (refine SW.block ?_) | ((first | refine SW.region ?_ | (refine allF_i fun b hb => ?_; replace hD := And.intro hb hD; clear hb; try simp only [fresh_cons, fresh_nil, and_true, ne_eq, neF] at hD)); try simp only [go_sem, hD, true_implies]) | (apply hK; clear hK K)
  obtain ⟨b5, rfl⟩ : ∃ x, x = b := ⟨_, rfl⟩
  obtain ⟨b4, rfl⟩ : ∃ x, x = b := ⟨_, rfl⟩
  obtain ⟨b3, rfl⟩ : ∃ x, x = b := ⟨_, rfl⟩
  refine Ab.SW.le (S' := ⟨[(3, .fp [Str df, IL dl, Str dt, IL dr]), (4, .fp [I64 xi, VL xs]), (5, .fp [I64 yi, VL ys]), (6, SB false), (7, I64 (0 : Nat))], []⟩) ?_ ?_
  · refine St.le.trans (St.le_freezeP (i := 3) (b := b3) (off := 0) (n := 4) (k := .svs [Str df, IL dl, Str dt, IL dr]) rfl (by simp [find_cons, hD]) (by exact Nat.le_refl 4)) ?_
    simp only [getN, Blk.get, go_sem, hD]
    refine St.le.trans (St.le_freezeP (i := 4) (b := b4) (off := 0) (n := 2) (k := .svs [I64 xi, VL xs]) rfl (by simp [find_cons, hD]) (by exact Nat.le_refl 2)) ?_
    simp only [getN, Blk.get, go_sem, hD]
    refine St.le.trans (St.le_freezeP (i := 5) (b := b5) (off := 0) (n := 2) (k := .svs [I64 yi, VL ys]) rfl (by simp [find_cons, hD]) (by exact Nat.le_refl 2)) ?_
    simp only [getN, Blk.get, go_sem, hD]
    exact St.le_sub (by repeat' (first | exact rfl | exact trivial | constructor))
  clear hD
  have hD : (0 : Nat) = 0 := rfl
  obtain ⟨I, hI⟩ : ∃ I : Nat → St → Prop, ∀ k S, I k S ↔ (∃ (i : Nat) , k = dl.length - i ∧ i ≤ dl.length ∧ (∀ j, j < i → xs.getD (dl.getD j 0).toNat v0 = ys.getD (dr.getD j 0).toNat v0) ∧ S = ⟨[(3, .fp [Str df, IL dl, Str dt, IL dr]), (4, .fp [I64 xi, VL xs]), (5, .fp [I64 yi, VL ys]), (6, SB false), (7, I64 i)], []⟩) := ⟨fun k S => _, fun _ _ => Iff.rfl⟩
  refine SW.loop' I (dl.length) ((hI _ _).2 ⟨0, rfl, Nat.zero_le _, (fun j hj => absurd hj (Nat.not_lt_zero _)), rfl⟩) (by repeat' (first | exact rfl | exact trivial | constructor)) ?_
  intro k S hIn
  obtain ⟨i, rfl, hi, hG, rfl⟩ := (hI _ _).1 hIn
  clear hIn
  have ie : ((i : Nat) : Int).toNat = i := Int.toNat_natCast _
  have i0 : (0 : Int) ≤ ((i : Nat) : Int) := by omega
  by_cases hlt : i < dl.length
  · have hli : ((i : Nat) : Int) < (((dl.length) : Nat) : Int) := by omega
    have w1 : IntKind.i64.wrap ((i : Int) + 1) = ((i + 1 : Nat) : Int) := by rw [i64_wrap (by omega) (by omega)]; omega
    have hlr2 : ((i : Nat) : Int) < ((dr.length : Nat) : Int) := by omega
    have fl : iF dl i = [I64 (dl.getD i 0)] := rfl
    have fr : iF dr i = [I64 (dr.getD i 0)] := rfl
    have hx := hl _ (getD_mem' 0 hlt)
    have hy := hr _ (getD_mem' 0 (show i < dr.length by omega))
    have hb := hbad i hlt
    have hG2 : xs.getD (dl.getD i 0).toNat v0 = ys.getD (dr.getD i 0).toNat v0 → ∀ j, j < i + 1 → xs.getD (dl.getD j 0).toNat v0 = ys.getD (dr.getD j 0).toNat v0 := fun h1 j hj => by
      rcases Nat.lt_or_eq_of_le (Nat.lt_succ_iff.1 hj) with h | h
      · exact hG j h
      · rw [h]; exact h1
    clear hbad hgood
    generalize dl.getD i 0 = p at *
    generalize dr.getD i 0 = q at *
    obtain ⟨p0, p1⟩ := hx
    obtain ⟨q0, q1⟩ := hy
    have mx : xs.getD p.toNat v0 ∈ xs := getD_mem v0 (by omega)
    have my : ys.getD q.toNat v0 ∈ ys := getD_mem v0 (by omega)
    have sx := okV_size (ox _ mx)
    have sy := okV_size (oy _ my)
    have fx : vF xs p.toNat = vC (xs.getD p.toNat v0) := rfl
    have fy : vF ys q.toNat = vC (ys.getD q.toNat v0) := rfl
    generalize xs.getD p.toNat v0 = v at *
    generalize ys.getD q.toNat v0 = w at *
    obtain ⟨v1, v2, v3⟩ := v
    obtain ⟨w1', w2, w3⟩ := w
    simp only at sx sy
    have cr := compare_r v1 v2 v3 w1' w2 w3 (by omega) (by omega)
    have cz := @cmpV_zero v1 v2 v3 w1' w2 w3
    generalize cmpV v1 v2 v3 w1' w2 w3 = c at *
    by_cases hc : c = 0
    · subst hc
      obtain ⟨rfl, rfl, rfl⟩ := cz.1 rfl
      repeat' first | (refine SW.seq_k fun K hK => ?_) | (refine SW.block ?_) | ((first | refine SW.region ?_ | refine SW.regionZ (id := 4) (Checked.mixed Tryz.checked) Go.Ab.zHB_1 (by kernel_rfl) ?_ | refine SW.cond ?_ | refine SW.skip ?_ | refine ⟨_, cr, ?_⟩); try simp only [Go.Ab.zHB_1, go_sem, hD, hli, hlr2, ie, i0, w1, fl, fr, p0, p1, q0, q1, fx, fy, true_implies]) | (apply hK; clear hK K)
      all_goals
        refine Rnd.sub (dl.length - (i + 1)) (by omega) ((hI _ _).2 ⟨i + 1, rfl, by omega, hG2 rfl, rfl⟩) (by repeat' (first | exact rfl | exact trivial | constructor))
    · have hR2 := hb fun e => hc (cz.2 (by simpa using e))
      subst hR2
      repeat' first | (refine SW.seq_k fun K hK => ?_) | (refine SW.block ?_) | ((first | refine SW.region ?_ | refine SW.regionZ (id := 4) (Checked.mixed Tryz.checked) Go.Ab.zHB_1 (by kernel_rfl) ?_ | refine SW.cond ?_ | refine SW.skip ?_ | refine SW.ret ?_ | refine ⟨_, cr, ?_⟩); try simp only [Go.Ab.zHB_1, go_sem, hD, hli, hlr2, ie, i0, w1, fl, fr, p0, p1, q0, q1, fx, fy, hc, true_implies]) | (apply hK; clear hK K)
      all_goals
        refine ret_pure ?_; simp only [resL_tmp, resL_nil, tupOf, go_sem, hD]
  · have hli : ¬ ((i : Nat) : Int) < (((dl.length) : Nat) : Int) := by omega
    have hR2 := hgood fun j hj => hG j (by omega)
    subst hR2
    repeat' first | (refine SW.seq_k fun K hK => ?_) | ((first | refine SW.region ?_ | refine SW.cond ?_ | refine SW.exit ?_ | refine SW.ret ?_); try simp only [go_sem, hD, hli, true_implies]) | (apply hK; clear hK K) | (clear hK K; apply hK; clear hK K)
    refine ret_pure ?_; simp only [resL_tmp, resL_nil, tupOf, go_sem, hD]
end Go.Proofs.YtpidncgibgiidaaGreat
namespace Go.Ab.A15
open Go Go.Ab Go.Ab.A34
def vE (db : List Tb) (d : Dp) : Int := if ¬ chkS db = 0 then chkS db else fitsS db d
def rowsAt (db : List Tb) (x : ByteArray) : List R3 := (db.getD (idxN x (nmsOf db)) t0).rows
def OkN (db : List Tb) : Prop := ∀ t ∈ db, ∀ r ∈ t.rows, ∀ v ∈ r.2, inV v
theorem vE_ok {db : List Tb} {d : Dp} (h : vE db d = 0) : Vdb db ∧ Fit (nmsOf db) (nsOf db) d := by
  unfold vE at h
  by_cases h1 : chkS db = 0
  · rw [if_neg (fun x => x h1)] at h
    exact ⟨chkS_ok h1, fits_ok h⟩
  · rw [if_pos h1] at h
    exact absurd h h1
structure RowsK (db : List Tb) (x : ByteArray) (R : List R3) : Prop where
  n : R.length ≤ 1000
  l : ∀ r ∈ R, r.2.length = (nsOf db).getD (idxN x (nmsOf db)) 0
  v : ∀ r ∈ R, ∀ v ∈ r.2, okV v = true
theorem rows_k {db : List Tb} (V : Vdb db) {x : ByteArray} (h : x ∈ nmsOf db) : RowsK db x (rowsAt db x) := by
  have hl := idxN_lt h
  have hl2 : idxN x (nmsOf db) < db.length := by unfold nmsOf at hl; rwa [List.length_map] at hl
  have hv := valid_rows (V.v _ (getD_mem' t0 hl2))
  have hns : (nsOf db).getD (idxN x (nmsOf db)) 0 = (db.getD (idxN x (nmsOf db)) t0).attrs.length := by
    unfold nsOf
    simp [List.getD_eq_getElem?_getD, hl2]
  exact ⟨hv.1, fun r hr => by rw [hns]; exact (hv.2.2 r hr).1, fun r hr => (hv.2.2 r hr).2⟩
theorem rows_n {db : List Tb} (hn : OkN db) {x : ByteArray} (h : x ∈ nmsOf db) : ∀ r ∈ rowsAt db x, ∀ v ∈ r.2, inV v := by
  have hl := idxN_lt h
  have hl2 : idxN x (nmsOf db) < db.length := by unfold nmsOf at hl; rwa [List.length_map] at hl
  exact hn _ (getD_mem' t0 hl2)
end Go.Ab.A15
def Go.Ab.zHC_1 : Go.Ab.OZ := (.one 0 [0, 1, 2, 3, 4, 5, 6, 7, 8, 9, 10, 11, 12, 13, 14, 15] (.one 1 [1, 2, 3, 4, 5, 6, 7, 8, 9, 10, 11, 12, 13, 14, 15] (.one 2 [2, 13, 14, 15] (.one 3 [3, 4, 6, 7, 13, 14, 15] (.one 4 [4, 6, 7, 13, 14, 15] (.one 5 [5, 6, 7, 13, 14, 15] (.one 6 [6, 7, 13, 14, 15] (.one 7 [7, 13, 14, 15] (.one 8 [8, 9, 11, 12, 13, 14, 15] (.one 9 [9, 11, 12, 13, 14, 15] (.one 10 [10, 11, 12, 13, 14, 15] (.one 11 [11, 12, 13, 14, 15] (.one 12 [12, 13, 14, 15] (.one 13 [13, 14, 15] (.one 14 [14, 15] (.one 15 [15] .done))))))))))))))))
namespace Go.Proofs.YtpidncgibgiidaaGreat
open Go Go.Ab Go.Ab.A34 Go.Ab.A15
variable [Gl] [Tabs]
theorem viol_rbad (db : List Tb) (d : Dp) (hdb : db.length ≤ 9223372036854775807) (hok : OkDb db) (hd : OkD d) (h : ¬ vE db d = 0) : PCall Tryz.prog 66 [DB db, DV d] (.tup [SN, I64 (vE db d)]) := by
  have c := valid_ir db d hdb hok hd
  rw [show (if ¬ chkS db = 0 then chkS db else fitsS db d) = vE db d from rfl] at c
  generalize vE db d = v at *
  obtain ⟨df, dl, dt, dr⟩ := d
  refine Call.enter' (N := 78) (rs := [.tmp 4, .tmp 5]) Tryz.func66 rfl rfl rfl (by decide) rfl ?_; simp only [argT]; have hD : (0 : Nat) = 0 := rfl
  repeat' first | (refine SW.seq_k fun K hK => ?_) | ((first | refine SW.region ?_ | refine SW.cond ?_ | refine SW.ret ?_ | refine Call.of_pure (c) ?_ | (refine allF_i fun b hb => ?_; replace hD := And.intro hb hD; clear hb; try simp only [fresh_cons, fresh_nil, and_true, ne_eq, neF] at hD)); try simp only [go_sem, hD, h, true_implies]) | (apply hK; clear hK K)
  refine ret_pure ?_; simp only [resL_tmp, resL_nil, tupOf, go_sem, hD]
theorem viol_r (db : List Tb) (d : Dp) (hdb : db.length ≤ 9223372036854775807) (hok : OkDb db) (hd : OkD d) (h : vE db d = 0) : PCall Tryz.prog 66 [DB db, DV d] (.tup [IL (violS (rowsAt db d.f) (rowsAt db d.t) d.l d.r), I64 0]) := by
  have c := valid_ir db d hdb hok hd
  rw [show (if ¬ chkS db = 0 then chkS db else fitsS db d) = vE db d from rfl, h] at c
  obtain ⟨V, F⟩ := vE_ok h
  have kf := rows_k V F.f
  have kt := rows_k V F.t
  have l1 := idxN_lt F.f
  have l2 := idxN_lt F.t
  have nl : (nmsOf db).length = db.length := by unfold nmsOf; rw [List.length_map]
  rw [nl] at l1 l2
  have c1 := table_r d.f db db.length (by omega) rfl (tF db) (fun i hi => rfl)
  have c2 := table_r d.t db db.length (by omega) rfl (tF db) (fun i hi => rfl)
  have e1 := tabI_idx (i := 0) F.f
  have e2 := tabI_idx (i := 0) F.t
  rw [Nat.zero_add] at e1 e2
  rw [e1] at c1
  rw [e2] at c2
  have b16 := in16_len F.nl (F.in16l V)
  have pr := fun x (hx : x ∈ rowsAt db d.f) y (hy : y ∈ rowsAt db d.t) => partner_r d x y F.lr (by omega) (fun a ha => by rw [kf.l x hx]; exact F.l a ha) (fun a ha => by rw [kt.l y hy]; exact F.r a ha) (kf.v x hx) (kt.v y hy)
  have kfn := kf.n
  have ktn := kt.n
  unfold rowsAt at pr kfn ktn ⊢
  have ff : tF db (idxN d.f (nmsOf db)) = tC (db.getD (idxN d.f (nmsOf db)) t0) := rfl
  have ft : tF db (idxN d.t (nmsOf db)) = tC (db.getD (idxN d.t (nmsOf db)) t0) := rfl
  clear kf kt F V e1 e2 h
  generalize idxN d.f (nmsOf db) = p at *
  generalize idxN d.t (nmsOf db) = q at *
  have p1 : ((p : Nat) : Int) < ((db.length : Nat) : Int) := by omega
  have q1 : ((q : Nat) : Int) < ((db.length : Nat) : Int) := by omega
  have p0 : (0 : Int) ≤ ((p : Nat) : Int) := by omega
  have q0 : (0 : Int) ≤ ((q : Nat) : Int) := by omega
  have pe : ((p : Nat) : Int).toNat = p := Int.toNat_natCast _
  have qe : ((q : Nat) : Int).toNat = q := Int.toNat_natCast _
  generalize db.getD p t0 = tp at *
  generalize db.getD q t0 = tq at *
  obtain ⟨pn, pa, fr⟩ := tp
  obtain ⟨qn, qa, tr⟩ := tq
  obtain ⟨df, dl, dt, dr⟩ := d
  simp only at pr kfn ktn c1 c2 ⊢
  obtain ⟨W, hW⟩ : ∃ W, W = violP fr tr dl dr := ⟨_, rfl⟩
  have hWs := fun i hi => @violP_succ fr tr dl dr i hi
  have hWl := violP_len fr tr dl dr
  have hWe : violS fr tr dl dr = W fr.length := by rw [hW]; rfl
  have hW0 : W 0 = [] := by rw [hW]; rfl
  rw [← hW] at hWs hWl
  rw [hWe]
  clear hW hWe
  refine Call.enter' (N := 78) (rs := [.tmp 4, .tmp 5]) Tryz.func66 rfl rfl rfl (by decide) rfl ?_; simp only [argT]; have hD : (0 : Nat) = 0 := rfl
  repeat' first | (refine SW.seq_k fun K hK => ?_) | ((first | refine SW.region ?_ | refine SW.cond ?_ | refine SW.skip ?_ | refine Call.of_pure (c) ?_ | (refine allF_i fun b hb => ?_; replace hD := And.intro hb hD; clear hb; try simp only [fresh_cons, fresh_nil, and_true, ne_eq, neF] at hD)); try simp only [go_sem, hD, true_implies]) | (apply hK; clear hK K)
  obtain ⟨b3, rfl⟩ : ∃ x, x = b := ⟨_, rfl⟩
  obtain ⟨b2, rfl⟩ : ∃ x, x = b := ⟨_, rfl⟩
  refine Ab.SW.le (S' := ⟨[(2, .fp [TL db]), (3, .fp [Str df, IL dl, Str dt, IL dr]), (4, SN), (5, I64 0)], []⟩) ?_ ?_
  · refine St.le.trans (St.le_freezeP (i := 3) (b := b3) (off := 0) (n := 4) (k := .svs [Str df, IL dl, Str dt, IL dr]) rfl (by simp [find_cons, hD]) (by exact Nat.le_refl 4)) ?_
    simp only [getN, Blk.get, go_sem, hD]
    refine St.le.trans (St.le_freezeP (i := 2) (b := b2) (off := 0) (n := 1) (k := .svs [TL db]) rfl (by simp [find_cons, hD]) (by exact Nat.le_refl 1)) ?_
    simp only [getN, Blk.get, go_sem, hD]
    exact St.le_sub (by repeat' (first | exact rfl | exact trivial | constructor))
  clear hD
  have hD : (0 : Nat) = 0 := rfl
  have key : ∃ C Q', (∀ S, Ab.SW Tryz.prog 78 C Q' S → K S) ∧ Ab.SW Tryz.prog 78 C Q' ⟨[(2, .fp [TL db]), (3, .fp [Str df, IL dl, Str dt, IL dr]), (4, SN), (5, I64 0), (7, .fp [Str pn, SL pa, RL fr]), (8, .fp [Str qn, SL qa, RL tr])], []⟩ := by
    refine ⟨_, _, hK, ?_⟩
    clear hK K c c1 c2
    repeat' first | (refine SW.seq_k fun K hK => ?_) | (refine SW.block ?_) | (refine SW.region ?_; try simp only [go_sem, hD, true_implies]) | (apply hK; clear hK K)
    obtain ⟨I, hI⟩ : ∃ I : Nat → St → Prop, ∀ k S, I k S ↔ (∃ (i : Nat) (x : SV) (h : Heap), k = fr.length - i ∧ i ≤ fr.length ∧ ((W i = [] ∧ x = SN ∧ h = []) ∨ ∃ g, x = .os g 0 (W i).length 1 ∧ h = [(g, .ints .i64 (W i))]) ∧ S = ⟨[(2, .fp [TL db]), (3, .fp [Str df, IL dl, Str dt, IL dr]), (4, SN), (5, I64 0), (7, .fp [Str pn, SL pa, RL fr]), (8, .fp [Str qn, SL qa, RL tr]), (9, x), (10, I64 i)], h⟩) := ⟨fun k S => _, fun _ _ => Iff.rfl⟩
    refine SW.loop' I (fr.length) ((hI _ _).2 ⟨0, SN, [], rfl, Nat.zero_le _, .inl ⟨hW0, rfl, rfl⟩, rfl⟩) (by repeat' (first | exact rfl | exact trivial | constructor)) ?_
    intro k S hIn
    obtain ⟨i, x, h, rfl, hi, hB, rfl⟩ := (hI _ _).1 hIn
    clear hIn
    have ie : ((i : Nat) : Int).toNat = i := Int.toNat_natCast _
    have i0 : (0 : Int) ≤ ((i : Nat) : Int) := by omega
    by_cases hlt : i < fr.length
    · have hli : ((i : Nat) : Int) < (((fr.length) : Nat) : Int) := by omega
      have w1 : IntKind.i64.wrap ((i : Int) + 1) = ((i + 1 : Nat) : Int) := by rw [i64_wrap (by omega) (by omega)]; omega
      have fi : rF fr i = [I64 (fr.getD i r0).1, VL (fr.getD i r0).2] := rfl
      have hx := pr _ (getD_mem r0 hlt)
      have hst := hWs i hlt
      have hwl := hWl i
      generalize hA : (fun y : R3 => agB dl dr (fr.getD i r0).2 y.2) = A at *
      have hAy : ∀ y, A y = agB dl dr (fr.getD i r0).2 y.2 := fun y => by rw [← hA]
      simp only [← hAy] at hx
      generalize fr.getD i r0 = xr at *
      obtain ⟨xi, xs⟩ := xr
      simp only at hx hst fi
      have hIO := hI
      have ow1 := w1
      have oi0 := i0
      have oie := ie
      have oli := hli
      clear hI
      repeat' first | (refine SW.seq_k fun K hK => ?_) | (refine SW.block ?_) | ((first | refine SW.region ?_ | refine SW.cond ?_ | refine SW.skip ?_); try simp only [go_sem, hD, hli, true_implies]) | (apply hK; clear hK K)
      obtain ⟨I, hI⟩ : ∃ I : Nat → St → Prop, ∀ k S, I k S ↔ (∃ (k2 : Nat) , k = tr.length - k2 ∧ k2 ≤ tr.length ∧ S = ⟨[(2, .fp [TL db]), (3, .fp [Str df, IL dl, Str dt, IL dr]), (4, SN), (5, I64 0), (7, .fp [Str pn, SL pa, RL fr]), (8, .fp [Str qn, SL qa, RL tr]), (9, x), (10, I64 i), (11, SB ((tr.take k2).any A)), (12, I64 k2)], h⟩) := ⟨fun k S => _, fun _ _ => Iff.rfl⟩
      refine SW.loop' I (tr.length) ((hI _ _).2 ⟨0, rfl, Nat.zero_le _, rfl⟩) (by repeat' (first | exact rfl | exact trivial | constructor)) ?_
      intro k S hIn
      obtain ⟨k2, rfl, hi, rfl⟩ := (hI _ _).1 hIn
      clear hIn
      have ie : ((k2 : Nat) : Int).toNat = k2 := Int.toNat_natCast _
      have i0 : (0 : Int) ≤ ((k2 : Nat) : Int) := by omega
      by_cases hlk : k2 < tr.length
      · have hli : ((k2 : Nat) : Int) < (((tr.length) : Nat) : Int) := by omega
        have w1 : IntKind.i64.wrap ((k2 : Int) + 1) = ((k2 + 1 : Nat) : Int) := by rw [i64_wrap (by omega) (by omega)]; omega
        have fk : rF tr k2 = [I64 (tr.getD k2 r0).1, VL (tr.getD k2 r0).2] := rfl
        have hp := hx _ (getD_mem r0 hlk)
        have has := any_succ (p := A) hlk
        generalize tr.getD k2 r0 = yr at *
        obtain ⟨yi, ys⟩ := yr
        simp only at hp fk
        generalize A (yi, ys) = av at *
        generalize hfo : (tr.take k2).any A = fo at *
        generalize hfo2 : (tr.take (k2 + 1)).any A = fo2 at *
        cases fo with
        | true =>
          obtain rfl : fo2 = true := by rw [has]; rfl
          repeat' first | (refine SW.seq_k fun K hK => ?_) | (refine SW.block ?_) | ((first | refine SW.region ?_ | refine SW.regionZ (id := 13) (Checked.mixed Tryz.checked) Go.Ab.zHC_1 (by kernel_rfl) ?_ | refine SW.cond ?_ | refine SW.skip ?_); try simp only [Go.Ab.zHC_1, go_sem, hD, hli, ie, i0, w1, oli, oie, oi0, fi, fk, true_implies]) | (apply hK; clear hK K)
          all_goals
            refine Rnd.sub (tr.length - (k2 + 1)) (by omega) ((hI _ _).2 ⟨k2 + 1, rfl, by omega, by rw [hfo2]⟩) (by repeat' (first | exact rfl | exact trivial | constructor))
        | false =>
          obtain rfl : fo2 = av := by rw [has]; rfl
          repeat' first | (refine SW.seq_k fun K hK => ?_) | (refine SW.block ?_) | ((first | refine SW.region ?_ | refine SW.regionZ (id := 13) (Checked.mixed Tryz.checked) Go.Ab.zHC_1 (by kernel_rfl) ?_ | refine SW.cond ?_ | refine SW.skip ?_ | refine ⟨_, hp, ?_⟩); try simp only [Go.Ab.zHC_1, go_sem, hD, hli, ie, i0, w1, oli, oie, oi0, fi, fk, true_implies]) | (apply hK; clear hK K)
          all_goals
            refine Rnd.sub (tr.length - (k2 + 1)) (by omega) ((hI _ _).2 ⟨k2 + 1, rfl, by omega, by rw [hfo2]⟩) (by repeat' (first | exact rfl | exact trivial | constructor))
      · have hli : ¬ ((k2 : Nat) : Int) < (((tr.length) : Nat) : Int) := by omega
        obtain rfl : k2 = tr.length := by omega
        rw [List.take_length]
        generalize hfo : tr.any A = fo at *
        cases fo with
        | true =>
          rw [if_pos rfl] at hst
          repeat' first | (refine SW.seq_k fun K hK => ?_) | ((first | refine SW.region ?_ | refine SW.cond ?_ | refine SW.skip ?_ | refine SW.exit ?_); try simp only [go_sem, hD, hli, ow1, true_implies]) | (apply hK; clear hK K) | (clear hK K; apply hK; clear hK K)
          refine Rnd.sub (fr.length - (i + 1)) (by omega) ((hIO _ _).2 ⟨i + 1, x, h, rfl, by omega, by rw [hst]; exact hB, rfl⟩) (by repeat' (first | exact rfl | exact trivial | constructor))
        | false =>
          rw [if_neg (by simp)] at hst
          have ba : ((W i).length + 1) * 8 ≤ 140737488355328 := by omega
          rcases hB with ⟨hw0, rfl, rfl⟩ | ⟨g, rfl, rfl⟩
          · have hst2 : W (i + 1) = [xi] := by rw [hst, hw0]; rfl
            repeat' first | (with_reducible refine And.intro (by omega) ?_) | (refine SW.seq_k fun K hK => ?_) | ((first | refine SW.region ?_ | refine SW.cond ?_ | refine SW.exit ?_ | (refine allF_i fun b hb => ?_; replace hD := And.intro hb hD; clear hb; try simp only [fresh_cons, fresh_nil, and_true, ne_eq, neF] at hD) | simp only [appK, appOsK]); try simp only [go_sem, hD, hli, ow1, oli, oie, oi0, fi, ba, true_implies]) | (refine And.intro (by omega) ?_) | (apply hK; clear hK K) | (clear hK K; apply hK; clear hK K)
            refine Rnd.le (St.le_slist (List.Sublist.cons_cons _ (List.Sublist.cons _ (List.Sublist.refl _)))) ?_
            refine Rnd.sub (fr.length - (i + 1)) (by omega) ((hIO _ _).2 ⟨i + 1, .os b 0 1 1, [(b, .ints .i64 [xi])], rfl, by omega, .inr ⟨b, by rw [hst2]; rfl, by rw [hst2]⟩, rfl⟩) (by repeat' (first | exact rfl | exact trivial | constructor))
          · have hst2 : (W (i + 1)).length = (W i).length + 1 := by rw [hst, List.length_append]; rfl
            repeat' first | (with_reducible refine And.intro (by omega) ?_) | (refine SW.seq_k fun K hK => ?_) | ((first | refine SW.region ?_ | refine SW.cond ?_ | refine SW.exit ?_ | (refine allF_i fun b hb => ?_; replace hD := And.intro hb hD; clear hb; try simp only [fresh_cons, fresh_nil, and_true, ne_eq, neF] at hD) | simp only [appK, appOsK]); try simp only [go_sem, hD, hli, ow1, oli, oie, oi0, fi, ba, true_implies]) | (apply hK; clear hK K) | (clear hK K; apply hK; clear hK K)
            refine Rnd.le (St.le_slist (List.Sublist.cons _ (List.Sublist.refl _))) ?_
            refine Rnd.sub (fr.length - (i + 1)) (by omega) ((hIO _ _).2 ⟨i + 1, .os b 0 ((W i).length + 1) 1, [(b, .ints .i64 (W i ++ [xi]))], rfl, by omega, .inr ⟨b, by rw [hst2], by rw [hst]⟩, rfl⟩) (by repeat' (first | exact rfl | exact trivial | constructor))
    · have hli : ¬ ((i : Nat) : Int) < (((fr.length) : Nat) : Int) := by omega
      obtain rfl : i = fr.length := by omega
      generalize W fr.length = R at *
      rcases hB with ⟨rfl, rfl, rfl⟩ | ⟨g, rfl, rfl⟩
      · repeat' first | (refine SW.seq_k fun K hK => ?_) | ((first | refine SW.region ?_ | refine SW.cond ?_ | refine SW.exit ?_ | refine SW.ret ?_); try simp only [go_sem, hD, hli, true_implies]) | (apply hK; clear hK K) | (clear hK K; apply hK; clear hK K)
        refine retQ_le (St.le_say (i := 4) (v := IL []) (fun E u hr => Rep.fl_nil hr)) ?_
        simp only [resL_tmp, resL_nil, tupOf, go_sem, hD]
        try exact rfl
      · repeat' first | (refine SW.seq_k fun K hK => ?_) | ((first | refine SW.region ?_ | refine SW.cond ?_ | refine SW.exit ?_ | refine SW.ret ?_); try simp only [go_sem, hD, hli, true_implies]) | (apply hK; clear hK K) | (clear hK K; apply hK; clear hK K)
        refine retQ_le (St.le_ints (i := 4) .i64 R rfl rfl (by rw [find_cons, if_pos rfl]) rfl) ?_
        rw [del_head]
        simp only [resL_tmp, resL_nil, tupOf, go_sem, hD]
        try exact rfl
  obtain ⟨C, Q', hK2, key⟩ := key
  clear hK
  repeat' first | ((first | refine SW.regionZ (id := 4) (Checked.mixed Tryz.checked) ((.one 0 [0, 1, 7, 8, 20, 21] (.one 1 [1, 7, 8, 20, 21] (.one 2 [2, 3, 6, 7, 8, 15, 16, 17, 20, 21] (.one 3 [3, 6, 7, 8, 15, 16, 17, 20, 21] (.one 4 [4, 5, 6, 7, 8, 15, 16, 17, 20, 21] (.one 5 [5, 6, 7, 8, 15, 16, 17, 20, 21] (.one 6 [6, 7, 8, 15, 16, 17, 20, 21] (.one 7 [7, 8, 20, 21] (.one 8 [8, 20, 21] (.one 11 [11, 12, 15, 16, 17, 20, 21] (.one 12 [12, 15, 16, 17, 20, 21] (.one 13 [13, 14, 15, 16, 17, 20, 21] (.one 14 [14, 15, 16, 17, 20, 21] (.one 15 [15, 16, 17, 20, 21] (.alt 9 (.alt 10 (.alt 16 (.alt 17 (.alt 18 (.alt 19 (.alt 20 (.alt 21 .done .nil) .nil) .nil) (.alt 19 (.alt 18 (.alt 20 (.alt 21 .done .nil) .nil) .nil) .nil)) (.alt 18 (.alt 17 (.alt 19 (.alt 20 (.alt 21 .done .nil) .nil) .nil) (.alt 19 (.alt 17 (.alt 20 (.alt 21 .done .nil) .nil) (.alt 20 (.one 17 [17, 21] (.alt 21 .done .nil)) .nil)) .nil)) (.alt 19 (.alt 17 (.alt 18 (.alt 20 (.alt 21 .done .nil) .nil) .nil) (.alt 18 (.alt 17 (.alt 20 (.alt 21 .done .nil) .nil) (.alt 20 (.one 17 [17, 21] (.alt 21 .done .nil)) .nil)) .nil)) .nil))) (.alt 18 (.alt 16 (.alt 17 (.alt 19 (.alt 20 (.alt 21 .done .nil) .nil) .nil) (.alt 19 (.alt 17 (.alt 20 (.alt 21 .done .nil) .nil) (.alt 20 (.one 17 [17, 21] (.alt 21 .done .nil)) .nil)) .nil)) (.alt 19 (.alt 16 (.alt 17 (.alt 20 (.alt 21 .done .nil) .nil) (.alt 20 (.one 17 [17, 21] (.alt 21 .done .nil)) .nil)) (.alt 20 (.one 16 [16, 17, 21] (.one 17 [17, 21] (.alt 21 .done .nil))) .nil)) .nil)) (.alt 19 (.alt 16 (.alt 17 (.alt 18 (.alt 20 (.alt 21 .done .nil) .nil) .nil) (.alt 18 (.alt 17 (.alt 20 (.alt 21 .done .nil) .nil) (.alt 20 (.one 17 [17, 21] (.alt 21 .done .nil)) .nil)) .nil)) (.alt 18 (.alt 16 (.alt 17 (.alt 20 (.alt 21 .done .nil) .nil) (.alt 20 (.one 17 [17, 21] (.alt 21 .done .nil)) .nil)) (.alt 20 (.one 16 [16, 17, 21] (.one 17 [17, 21] (.alt 21 .done .nil))) .nil)) .nil)) .nil))) (.alt 18 (.alt 10 (.alt 16 (.alt 17 (.alt 19 (.alt 20 (.alt 21 .done .nil) .nil) .nil) (.alt 19 (.alt 17 (.alt 20 (.alt 21 .done .nil) .nil) (.alt 20 (.one 17 [17, 21] (.alt 21 .done .nil)) .nil)) .nil)) (.alt 19 (.alt 16 (.alt 17 (.alt 20 (.alt 21 .done .nil) .nil) (.alt 20 (.one 17 [17, 21] (.alt 21 .done .nil)) .nil)) (.alt 20 (.one 16 [16, 17, 21] (.one 17 [17, 21] (.alt 21 .done .nil))) .nil)) .nil)) (.alt 19 (.alt 10 (.alt 16 (.alt 17 (.alt 20 (.alt 21 .done .nil) .nil) (.alt 20 (.one 17 [17, 21] (.alt 21 .done .nil)) .nil)) (.alt 20 (.one 16 [16, 17, 21] (.one 17 [17, 21] (.alt 21 .done .nil))) .nil)) (.alt 20 (.one 10 [10, 16, 17, 21] (.one 16 [16, 17, 21] (.one 17 [17, 21] (.alt 21 .done .nil)))) .nil)) .nil)) (.alt 19 (.alt 10 (.alt 16 (.alt 17 (.alt 18 (.alt 20 (.alt 21 .done .nil) .nil) .nil) (.alt 18 (.alt 17 (.alt 20 (.alt 21 .done .nil) .nil) (.alt 20 (.one 17 [17, 21] (.alt 21 .done .nil)) .nil)) .nil)) (.alt 18 (.alt 16 (.alt 17 (.alt 20 (.alt 21 .done .nil) .nil) (.alt 20 (.one 17 [17, 21] (.alt 21 .done .nil)) .nil)) (.alt 20 (.one 16 [16, 17, 21] (.one 17 [17, 21] (.alt 21 .done .nil))) .nil)) .nil)) (.alt 18 (.alt 10 (.alt 16 (.alt 17 (.alt 20 (.alt 21 .done .nil) .nil) (.alt 20 (.one 17 [17, 21] (.alt 21 .done .nil)) .nil)) (.alt 20 (.one 16 [16, 17, 21] (.one 17 [17, 21] (.alt 21 .done .nil))) .nil)) (.alt 20 (.one 10 [10, 16, 17, 21] (.one 16 [16, 17, 21] (.one 17 [17, 21] (.alt 21 .done .nil)))) .nil)) .nil)) .nil))) (.alt 18 (.alt 9 (.alt 10 (.alt 16 (.alt 17 (.alt 19 (.alt 20 (.alt 21 .done .nil) .nil) .nil) (.alt 19 (.alt 17 (.alt 20 (.alt 21 .done .nil) .nil) (.alt 20 (.one 17 [17, 21] (.alt 21 .done .nil)) .nil)) .nil)) (.alt 19 (.alt 16 (.alt 17 (.alt 20 (.alt 21 .done .nil) .nil) (.alt 20 (.one 17 [17, 21] (.alt 21 .done .nil)) .nil)) (.alt 20 (.one 16 [16, 17, 21] (.one 17 [17, 21] (.alt 21 .done .nil))) .nil)) .nil)) (.alt 19 (.alt 10 (.alt 16 (.alt 17 (.alt 20 (.alt 21 .done .nil) .nil) (.alt 20 (.one 17 [17, 21] (.alt 21 .done .nil)) .nil)) (.alt 20 (.one 16 [16, 17, 21] (.one 17 [17, 21] (.alt 21 .done .nil))) .nil)) (.alt 20 (.one 10 [10, 16, 17, 21] (.one 16 [16, 17, 21] (.one 17 [17, 21] (.alt 21 .done .nil)))) .nil)) .nil)) (.alt 19 (.alt 9 (.alt 10 (.alt 16 (.alt 17 (.alt 20 (.alt 21 .done .nil) .nil) (.alt 20 (.one 17 [17, 21] (.alt 21 .done .nil)) .nil)) (.alt 20 (.one 16 [16, 17, 21] (.one 17 [17, 21] (.alt 21 .done .nil))) .nil)) (.alt 20 (.one 10 [10, 16, 17, 21] (.one 16 [16, 17, 21] (.one 17 [17, 21] (.alt 21 .done .nil)))) .nil)) (.alt 20 (.one 9 [9, 10, 16, 17, 21] (.one 10 [10, 16, 17, 21] (.one 16 [16, 17, 21] (.one 17 [17, 21] (.alt 21 .done .nil))))) .nil)) .nil)) (.alt 19 (.alt 9 (.alt 10 (.alt 16 (.alt 17 (.alt 18 (.alt 20 (.alt 21 .done .nil) .nil) .nil) (.alt 18 (.alt 17 (.alt 20 (.alt 21 .done .nil) .nil) (.alt 20 (.one 17 [17, 21] (.alt 21 .done .nil)) .nil)) .nil)) (.alt 18 (.alt 16 (.alt 17 (.alt 20 (.alt 21 .done .nil) .nil) (.alt 20 (.one 17 [17, 21] (.alt 21 .done .nil)) .nil)) (.alt 20 (.one 16 [16, 17, 21] (.one 17 [17, 21] (.alt 21 .done .nil))) .nil)) .nil)) (.alt 18 (.alt 10 (.alt 16 (.alt 17 (.alt 20 (.alt 21 .done .nil) .nil) (.alt 20 (.one 17 [17, 21] (.alt 21 .done .nil)) .nil)) (.alt 20 (.one 16 [16, 17, 21] (.one 17 [17, 21] (.alt 21 .done .nil))) .nil)) (.alt 20 (.one 10 [10, 16, 17, 21] (.one 16 [16, 17, 21] (.one 17 [17, 21] (.alt 21 .done .nil)))) .nil)) .nil)) (.alt 18 (.alt 9 (.alt 10 (.alt 16 (.alt 17 (.alt 20 (.alt 21 .done .nil) .nil) (.alt 20 (.one 17 [17, 21] (.alt 21 .done .nil)) .nil)) (.alt 20 (.one 16 [16, 17, 21] (.one 17 [17, 21] (.alt 21 .done .nil))) .nil)) (.alt 20 (.one 10 [10, 16, 17, 21] (.one 16 [16, 17, 21] (.one 17 [17, 21] (.alt 21 .done .nil)))) .nil)) (.alt 20 (.one 9 [9, 10, 16, 17, 21] (.one 10 [10, 16, 17, 21] (.one 16 [16, 17, 21] (.one 17 [17, 21] (.alt 21 .done .nil))))) .nil)) .nil)) .nil))))))))))))))))) : OZ) (by kernel_rfl) ?_ | refine ⟨_, c1, ?_⟩ | refine ⟨_, c2, ?_⟩ | (refine allF_i fun b hb => ?_; replace hD := And.intro hb hD; clear hb; try simp only [fresh_cons, fresh_nil, and_true, ne_eq, neF] at hD)); try simp only [go_sem, hD, p1, q1, p0, q0, pe, qe, ff, ft, true_implies]) | (refine And.intro ?_ ?_)
  all_goals
    obtain ⟨x1, rfl⟩ : ∃ x, x = b := ⟨_, rfl⟩
    obtain ⟨x2, rfl⟩ : ∃ x, x = b := ⟨_, rfl⟩
    refine hK2 _ (Ab.SW.le ?_ key)
    clear hK2 key
    refine St.le.trans (St.le_freezeP (i := 8) (off := 0) (n := 3) (k := .svs [Str qn, SL qa, RL tr]) rfl (by simp [find_cons, hD]) (by exact Nat.le_refl 3)) ?_
    simp only [getN, Blk.get, go_sem, hD]
    refine St.le.trans (St.le_freezeP (i := 7) (off := 0) (n := 3) (k := .svs [Str pn, SL pa, RL fr]) rfl (by simp [find_cons, hD]) (by exact Nat.le_refl 3)) ?_
    simp only [getN, Blk.get, go_sem, hD]
    exact St.le_sub (by repeat' (first | exact rfl | exact trivial | constructor))
end Go.Proofs.YtpidncgibgiidaaGreat
namespace Go.Ab.A15
open Go Go.Ab Go.Ab.A34 Go.Ab.A01
def mapB (S : List ByteArray) : List (Value × Value) := S.map fun s => (.string s, .bool true)
def fB (s : ByteArray) : Nat → List ByteArray → Option (Nat × Value)
  | _, [] => none
  | i, y :: l => if s = y then some (i, .bool true) else fB s (i + 1) l
theorem mfI_B (s : ByteArray) : ∀ (l : List ByteArray) (i : Nat), mfI .s (.string s) (mapB l) i = some (fB s i l)
  | [], i => rfl
  | y :: l, i => by
    show mfI .s (.string s) ((.string y, .bool true) :: mapB l) i = _
    rw [mfI, same_s]
    unfold fB
    by_cases e : s = y
    · rw [if_pos e, decide_eq_true e]
    · rw [if_neg e, decide_eq_false e]
      exact mfI_B s l (i + 1)
theorem fB_none {s : ByteArray} : ∀ {l : List ByteArray} {i : Nat}, s ∉ l → fB s i l = none
  | [], i, _ => rfl
  | y :: l, i, h => by
    unfold fB
    rw [if_neg (fun e => h (by rw [e]; exact List.mem_cons_self))]
    exact fB_none fun hm => h (List.mem_cons_of_mem _ hm)
theorem fB_some {s : ByteArray} : ∀ {l : List ByteArray} {i : Nat}, s ∈ l → ∃ k, fB s i l = some (i + k, .bool true) ∧ k < l.length ∧ l.getD k ⟨#[]⟩ = s
  | [], i, h => by cases h
  | y :: l, i, h => by
    unfold fB
    by_cases e : s = y
    · exact ⟨0, by rw [if_pos e]; rfl, by simp, by simp [e]⟩
    · obtain ⟨k, h1, h2, h3⟩ := fB_some (i := i + 1) ((List.mem_cons.1 h).resolve_left e)
      exact ⟨k + 1, by rw [if_neg e, h1, show i + 1 + k = i + (k + 1) by omega], by simpa using h2, by simpa using h3⟩
open Classical in
noncomputable def addB (l : List ByteArray) (s : ByteArray) : List ByteArray := if s ∈ l then l else l ++ [s]
theorem mset_B (s : ByteArray) (l : List ByteArray) : mset (.string s) (.bool true) (mapB l) (fB s 0 l) = mapB (addB l s) := by
  unfold addB
  by_cases h : s ∈ l
  · obtain ⟨k, h1, h2, h3⟩ := fB_some (i := 0) h
    rw [if_pos h, h1]
    show (mapB l).set (0 + k) (.string s, .bool true) = mapB l
    rw [Nat.zero_add]
    refine List.ext_getElem (by simp) fun j h4 h5 => ?_
    by_cases e : k = j
    · subst e
      rw [List.getElem_set_self]
      have e2 : (mapB l)[k] = (.string l[k], .bool true) := by simp [mapB]
      have : l.getD k ⟨#[]⟩ = l[k] := by simp [List.getD_eq_getElem?_getD, h2]
      rw [e2, ← this, h3]
    · rw [List.getElem_set_ne e]
  · rw [if_neg h, fB_none h]
    show mapB l ++ [(.string s, .bool true)] = mapB (l ++ [s])
    unfold mapB
    rw [List.map_append]
    rfl
theorem mem_addB {l : List ByteArray} {s x : ByteArray} : x ∈ addB l s ↔ x ∈ l ∨ x = s := by
  unfold addB
  by_cases h : s ∈ l
  · rw [if_pos h]
    exact ⟨.inl, fun h2 => h2.elim id (fun e => by rw [e]; exact h)⟩
  · rw [if_neg h, List.mem_append, List.mem_singleton]
noncomputable def keysB (T : List R3) (b : List Int) : Nat → List ByteArray
  | 0 => []
  | i + 1 => addB (keysB T b i) (mkB (catK (T.getD i r0) b))
theorem mem_keysB {T : List R3} {b : List Int} {x : ByteArray} : ∀ {i : Nat}, i ≤ T.length → (x ∈ keysB T b i ↔ ∃ j, j < i ∧ mkB (catK (T.getD j r0) b) = x)
  | 0, _ => ⟨fun h => (by cases h), fun ⟨j, h, _⟩ => absurd h (Nat.not_lt_zero _)⟩
  | i + 1, h => by
    rw [keysB, mem_addB, mem_keysB (i := i) (by omega)]
    constructor
    · rintro (⟨j, h1, h2⟩ | rfl)
      · exact ⟨j, by omega, h2⟩
      · exact ⟨i, by omega, rfl⟩
    · rintro ⟨j, h1, h2⟩
      rcases Nat.lt_or_eq_of_le (Nat.lt_succ_iff.1 h1) with h3 | h3
      · exact .inl ⟨j, h3, h2⟩
      · subst h3; exact .inr h2.symm
theorem mkB_inj {a b : List UInt8} (h : mkB a = mkB b) : a = b := by
  have := congrArg (fun x : ByteArray => x.data.toList) h
  simpa [mkB] using this
theorem key_any {T : List R3} {a b : List Int} {x : R3} (hab : a.length = b.length) (hx : OkR x) (hT : ∀ y ∈ T, OkR y) (ha : ∀ z ∈ a, 0 ≤ z ∧ z < x.2.length) (hb : ∀ y ∈ T, ∀ z ∈ b, 0 ≤ z ∧ z < y.2.length) :
    (mkB (catK x a) ∈ keysB T b T.length) ↔ (T.any fun y => agB a b x.2 y.2) = true := by
  rw [mem_keysB (Nat.le_refl _), List.any_eq_true]
  constructor
  · rintro ⟨j, hj, h⟩
    have hm := getD_mem r0 hj
    exact ⟨_, hm, agB_iff.2 ((catK_inj hx (hT _ hm) hab ha (hb _ hm)).1 (mkB_inj h).symm)⟩
  · rintro ⟨y, hy, h⟩
    obtain ⟨j, hj, rfl⟩ := List.getElem_of_mem hy
    have e : T.getD j r0 = T[j] := by simp [List.getD_eq_getElem?_getD, hj]
    exact ⟨j, hj, by rw [e, (catK_inj hx (hT _ hy) hab ha (hb _ hy)).2 (agB_iff.1 h)]⟩
end Go.Ab.A15
def Go.Ab.zHD_1 : Go.Ab.OZ := (.one 0 [0, 1, 7, 8, 9, 10] (.one 1 [1, 7, 8, 9, 10] (.one 2 [2, 3, 6, 7, 8, 9, 10] (.one 3 [3, 6, 7, 8, 9, 10] (.one 4 [4, 5, 6, 7, 8, 9, 10] (.one 5 [5, 6, 7, 8, 9, 10] (.one 6 [6, 7, 8, 9, 10] (.one 7 [7, 8, 9, 10] (.one 8 [8, 9, 10] (.one 9 [9, 10] (.one 10 [10] (.one 11 [11] .done))))))))))))
namespace Go.Proofs.YtpidncgibgiidaaGreat
open Go Go.Ab Go.Ab.A34 Go.Ab.A15 Go.Ab.A01
variable [Gl] [Tabs]
theorem viol_p (db : List Tb) (d : Dp) (hdb : db.length ≤ 9223372036854775807) (hd : OkD d) (hn : OkN db) (h : vE db d = 0) : PCall Tryz.prog 68 [DB db, DV d] (.tup [IL (violS (rowsAt db d.f) (rowsAt db d.t) d.l d.r), I64 0]) := by
  have c := valid_ip db d hdb hd
  rw [show (if ¬ chkS db = 0 then chkS db else fitsS db d) = vE db d from rfl, h] at c
  obtain ⟨V, F⟩ := vE_ok h
  have kf := rows_k V F.f
  have kt := rows_k V F.t
  have nf := rows_n hn F.f
  have nt := rows_n hn F.t
  have l1 := idxN_lt F.f
  have l2 := idxN_lt F.t
  have nl : (nmsOf db).length = db.length := by unfold nmsOf; rw [List.length_map]
  rw [nl] at l1 l2
  have c1 := find_p d.f db db.length (by omega) rfl (tF db) (fun i hi => rfl)
  have c2 := find_p d.t db db.length (by omega) rfl (tF db) (fun i hi => rfl)
  have e1 := tabI_idx (i := 0) F.f
  have e2 := tabI_idx (i := 0) F.t
  rw [Nat.zero_add] at e1 e2
  rw [e1] at c1
  rw [e2] at c2
  have b16 := in16_len F.nl (F.in16l V)
  have b16r := in16_len F.nr (F.in16r V)
  have fl : ∀ x ∈ rowsAt db d.f, ∀ z ∈ d.l, 0 ≤ z ∧ z < x.2.length := fun x hx z hz => by rw [kf.l x hx]; exact F.l z hz
  have tl : ∀ y ∈ rowsAt db d.t, ∀ z ∈ d.r, 0 ≤ z ∧ z < y.2.length := fun y hy z hz => by rw [kt.l y hy]; exact F.r z hz
  have okf : ∀ x ∈ rowsAt db d.f, OkR x := fun x hx => ⟨kf.v x hx, nf x hx⟩
  have okt : ∀ x ∈ rowsAt db d.t, OkR x := fun x hx => ⟨kt.v x hx, nt x hx⟩
  have kpf := fun x (hx : x ∈ rowsAt db d.f) => key_p x d.l (okf x hx) (fl x hx) (by omega)
  have kpt := fun x (hx : x ∈ rowsAt db d.t) => key_p x d.r (okt x hx) (tl x hx) (by omega)
  have kan := fun x (hx : x ∈ rowsAt db d.f) => key_any (T := rowsAt db d.t) (x := x) F.lr (okf x hx) okt (fl x hx) tl
  have kfn := kf.n
  have ktn := kt.n
  unfold rowsAt at kpf kpt kan kfn ktn ⊢
  have ff : tF db (idxN d.f (nmsOf db)) = tC (db.getD (idxN d.f (nmsOf db)) t0) := rfl
  have ft : tF db (idxN d.t (nmsOf db)) = tC (db.getD (idxN d.t (nmsOf db)) t0) := rfl
  clear kf kt nf nt F V e1 e2 h fl tl okf okt
  generalize idxN d.f (nmsOf db) = p at *
  generalize idxN d.t (nmsOf db) = q at *
  have p1 : ((p : Nat) : Int) < ((db.length : Nat) : Int) := by omega
  have q1 : ((q : Nat) : Int) < ((db.length : Nat) : Int) := by omega
  have p0 : (0 : Int) ≤ ((p : Nat) : Int) := by omega
  have q0 : (0 : Int) ≤ ((q : Nat) : Int) := by omega
  have pe : ((p : Nat) : Int).toNat = p := Int.toNat_natCast _
  have qe : ((q : Nat) : Int).toNat = q := Int.toNat_natCast _
  generalize db.getD p t0 = tp at *
  generalize db.getD q t0 = tq at *
  obtain ⟨pn, pa, fr⟩ := tp
  obtain ⟨qn, qa, tr⟩ := tq
  obtain ⟨df, dl, dt, dr⟩ := d
  simp only at kpf kpt kan kfn ktn c1 c2 ⊢
  obtain ⟨W, hW⟩ : ∃ W, W = violP fr tr dl dr := ⟨_, rfl⟩
  have hWs := fun i hi => @violP_succ fr tr dl dr i hi
  have hWl := violP_len fr tr dl dr
  have hWe : violS fr tr dl dr = W fr.length := by rw [hW]; rfl
  have hW0 : W 0 = [] := by rw [hW]; rfl
  rw [← hW] at hWs hWl
  rw [hWe]
  clear hW hWe
  refine Call.enter' (N := 70) (rs := [.tmp 4, .tmp 5]) Tryz.func68 rfl rfl rfl (by decide) rfl ?_; simp only [argT]; have hD : (0 : Nat) = 0 := rfl
  repeat' first | (refine SW.seq_k fun K hK => ?_) | ((first | refine SW.region ?_ | refine SW.cond ?_ | refine SW.skip ?_ | refine Call.of_pure (c) ?_ | (refine allF_i fun b hb => ?_; replace hD := And.intro hb hD; clear hb; try simp only [fresh_cons, fresh_nil, and_true, ne_eq, neF] at hD)); try simp only [go_sem, hD, true_implies]) | (apply hK; clear hK K)
  obtain ⟨mb, rfl⟩ : ∃ x, x = b := ⟨_, rfl⟩
  obtain ⟨b3, rfl⟩ : ∃ x, x = b := ⟨_, rfl⟩
  obtain ⟨b2, rfl⟩ : ∃ x, x = b := ⟨_, rfl⟩
  refine Ab.SW.le (S' := ⟨[(2, .fp [TL db]), (3, .fp [Str df, IL dl, Str dt, IL dr]), (4, SN), (5, I64 0), (7, .mp mb)], [(mb, .mp [])]⟩) ?_ ?_
  · refine St.le.trans (St.le_freezeP (i := 3) (b := b3) (off := 0) (n := 4) (k := .svs [Str df, IL dl, Str dt, IL dr]) rfl (by simp [find_cons, hD]) (by exact Nat.le_refl 4)) ?_
    simp only [getN, Blk.get, go_sem, hD]
    refine St.le.trans (St.le_freezeP (i := 2) (b := b2) (off := 0) (n := 1) (k := .svs [TL db]) rfl (by simp [find_cons, hD]) (by exact Nat.le_refl 1)) ?_
    simp only [getN, Blk.get, go_sem, hD]
    exact St.le_sub (by repeat' (first | exact rfl | exact trivial | constructor))
  clear hD
  have hD : (0 : Nat) = 0 := rfl
  repeat' first | (refine SW.block ?_) | ((first | refine SW.regionZ (id := 5) (Checked.mixed Tryz.checked) Go.Ab.zHD_1 (by kernel_rfl) ?_ | refine ⟨_, c2, ?_⟩); try simp only [Go.Ab.zHD_1, go_sem, hD, p1, q1, p0, q0, pe, qe, ff, ft, true_implies]) | (apply hK; clear hK K)
  obtain ⟨I, hI⟩ : ∃ I : Nat → St → Prop, ∀ k S, I k S ↔ (∃ (i : Nat) , k = tr.length - i ∧ i ≤ tr.length ∧ S = ⟨[(2, .fp [TL db]), (3, .fp [Str df, IL dl, Str dt, IL dr]), (4, SN), (5, I64 0), (7, .mp mb), (29, RL tr), (30, I64 tr.length), (31, I64 i)], [(mb, .mp (mapB (keysB tr dr i)))]⟩) := ⟨fun k S => _, fun _ _ => Iff.rfl⟩
  refine SW.loop' I (tr.length) ((hI _ _).2 ⟨0, rfl, Nat.zero_le _, rfl⟩) (by repeat' (first | exact rfl | exact trivial | constructor)) ?_
  intro k S hIn
  obtain ⟨i, rfl, hi, rfl⟩ := (hI _ _).1 hIn
  clear hIn
  have ie : ((i : Nat) : Int).toNat = i := Int.toNat_natCast _
  have i0 : (0 : Int) ≤ ((i : Nat) : Int) := by omega
  by_cases hlt : i < tr.length
  · have hli : ((i : Nat) : Int) < (((tr.length) : Nat) : Int) := by omega
    have w1 : IntKind.i64.wrap ((i : Int) + 1) = ((i + 1 : Nat) : Int) := by rw [i64_wrap (by omega) (by omega)]; omega
    have fi : rF tr i = [I64 (tr.getD i r0).1, VL (tr.getD i r0).2] := rfl
    have kp := kpt _ (getD_mem r0 hlt)
    have mf := mfI_B (mkB (catK (tr.getD i r0) dr)) (keysB tr dr i) 0
    have ms := mset_B (mkB (catK (tr.getD i r0) dr)) (keysB tr dr i)
    have hks : keysB tr dr (i + 1) = addB (keysB tr dr i) (mkB (catK (tr.getD i r0) dr)) := rfl
    rw [← hks] at ms
    clear hks
    generalize mkB (catK (tr.getD i r0) dr) = key at *
    generalize tr.getD i r0 = y at *
    obtain ⟨yi, ys⟩ := y
    simp only at fi kp
    generalize fB key 0 (keysB tr dr i) = fz at *
    repeat' first | (refine SW.seq_k fun K hK => ?_) | (refine SW.block ?_) | ((first | refine SW.region ?_ | refine SW.cond ?_ | refine SW.skip ?_ | refine Call.of_pure (kp) ?_ | (refine allF_i fun b hb => ?_; replace hD := And.intro hb hD; clear hb; try simp only [fresh_cons, fresh_nil, and_true, ne_eq, neF] at hD)); try simp only [go_sem, hD, hli, ie, i0, w1, fi, mf, ms, true_implies]) | (apply hK; clear hK K)
    refine Rnd.le (St.le_slist (List.Sublist.cons _ (List.Sublist.refl _))) ?_
    refine Rnd.sub (tr.length - (i + 1)) (by omega) ((hI _ _).2 ⟨i + 1, rfl, by omega, rfl⟩) (by repeat' (first | exact rfl | exact trivial | constructor))
  · have hli : ¬ ((i : Nat) : Int) < (((tr.length) : Nat) : Int) := by omega
    obtain rfl : i = tr.length := by omega
    generalize keysB tr dr tr.length = Ks at *
    repeat' first | (refine SW.seq_k fun K hK => ?_) | (refine SW.block ?_) | ((first | refine SW.region ?_ | refine SW.regionZ (id := 11) (Checked.mixed Tryz.checked) Go.Ab.zHD_1 (by kernel_rfl) ?_ | refine SW.cond ?_ | refine SW.exit ?_ | refine ⟨_, c1, ?_⟩); try simp only [Go.Ab.zHD_1, go_sem, hD, hli, p1, q1, p0, q0, pe, qe, ff, ft, true_implies]) | (apply hK; clear hK K) | (clear hK K; apply hK; clear hK K)
    have hD : (0 : Nat) = 0 := rfl
    obtain ⟨I, hI⟩ : ∃ I : Nat → St → Prop, ∀ k S, I k S ↔ (∃ (k2 : Nat) (x : SV) (h : Heap), k = fr.length - k2 ∧ k2 ≤ fr.length ∧ ((W k2 = [] ∧ x = SN ∧ h = []) ∨ ∃ g, ¬ g = mb ∧ ¬ mb = g ∧ x = .os g 0 (W k2).length 1 ∧ h = [(g, .ints .i64 (W k2))]) ∧ S = ⟨[(2, .fp [TL db]), (3, .fp [Str df, IL dl, Str dt, IL dr]), (4, SN), (5, I64 0), (7, .mp mb), (10, x), (50, RL fr), (51, I64 fr.length), (52, I64 k2)], (mb, .mp (mapB Ks)) :: h⟩) := ⟨fun k S => _, fun _ _ => Iff.rfl⟩
    refine SW.loop' I (fr.length) ((hI _ _).2 ⟨0, SN, [], rfl, Nat.zero_le _, .inl ⟨hW0, rfl, rfl⟩, rfl⟩) (by repeat' (first | exact rfl | exact trivial | constructor)) ?_
    intro k S hIn
    obtain ⟨k2, x, h, rfl, hi, hB, rfl⟩ := (hI _ _).1 hIn
    clear hIn
    have ie : ((k2 : Nat) : Int).toNat = k2 := Int.toNat_natCast _
    have i0 : (0 : Int) ≤ ((k2 : Nat) : Int) := by omega
    by_cases hlk : k2 < fr.length
    · have hli : ((k2 : Nat) : Int) < (((fr.length) : Nat) : Int) := by omega
      have w1 : IntKind.i64.wrap ((k2 : Int) + 1) = ((k2 + 1 : Nat) : Int) := by rw [i64_wrap (by omega) (by omega)]; omega
      have fi : rF fr k2 = [I64 (fr.getD k2 r0).1, VL (fr.getD k2 r0).2] := rfl
      have kp := kpf _ (getD_mem r0 hlk)
      have ka := kan _ (getD_mem r0 hlk)
      have mf := mfI_B (mkB (catK (fr.getD k2 r0) dl)) Ks 0
      have hst := hWs k2 hlk
      have hwl := hWl k2
      generalize (tr.any fun y => agB dl dr (fr.getD k2 r0).2 y.2) = av at *
      generalize mkB (catK (fr.getD k2 r0) dl) = key at *
      generalize fr.getD k2 r0 = y at *
      obtain ⟨yi, ys⟩ := y
      simp only at fi kp hst
      cases av with
      | true =>
        obtain ⟨j, hj, _⟩ := fB_some (i := 0) (ka.2 rfl)
        rw [hj] at mf
        rw [if_pos rfl] at hst
        rcases hB with ⟨hw0, rfl, rfl⟩ | ⟨g, u1, u2, rfl, rfl⟩
        · repeat' first | (refine SW.seq_k fun K hK => ?_) | (refine SW.block ?_) | ((first | refine SW.region ?_ | refine SW.cond ?_ | refine SW.skip ?_ | refine Call.of_pure (kp) ?_ | (refine allF_i fun b hb => ?_; replace hD := And.intro hb hD; clear hb; try simp only [fresh_cons, fresh_nil, and_true, ne_eq, neF] at hD)); try simp only [go_sem, hD, hli, ie, i0, w1, fi, mf, true_implies]) | (apply hK; clear hK K)
          refine Rnd.le (St.le_slist (List.Sublist.cons _ (List.Sublist.refl _))) ?_
          refine Rnd.sub (fr.length - (k2 + 1)) (by omega) ((hI _ _).2 ⟨k2 + 1, SN, [], rfl, by omega, .inl ⟨by rw [hst, hw0], rfl, rfl⟩, rfl⟩) (by repeat' (first | exact rfl | exact trivial | constructor))
        · have hD := And.intro (eq_false u1) (eq_false u2)
          repeat' first | (refine SW.seq_k fun K hK => ?_) | (refine SW.block ?_) | ((first | refine SW.region ?_ | refine SW.cond ?_ | refine SW.skip ?_ | refine Call.of_pure (kp) ?_ | (refine allF_i fun b hb => ?_; replace hD := And.intro hb hD; clear hb; try simp only [fresh_cons, fresh_nil, and_true, ne_eq, neF] at hD)); try simp only [go_sem, hD, hli, ie, i0, w1, fi, mf, true_implies]) | (apply hK; clear hK K)
          refine Rnd.le (St.le_slist (List.Sublist.cons _ (List.Sublist.refl _))) ?_
          refine Rnd.sub (fr.length - (k2 + 1)) (by omega) ((hI _ _).2 ⟨k2 + 1, .os g 0 (W k2).length 1, [(g, .ints .i64 (W k2))], rfl, by omega, .inr ⟨g, u1, u2, by rw [hst], by rw [hst]⟩, rfl⟩) (by repeat' (first | exact rfl | exact trivial | constructor))
      | false =>
        have hj := fB_none (i := 0) (fun h => by have := ka.1 h; cases this)
        rw [hj] at mf
        rw [if_neg (by simp)] at hst
        have ba : ((W k2).length + 1) * 8 ≤ 140737488355328 := by omega
        rcases hB with ⟨hw0, rfl, rfl⟩ | ⟨g, u1, u2, rfl, rfl⟩
        · have hst2 : W (k2 + 1) = [yi] := by rw [hst, hw0]; rfl
          repeat' first | (with_reducible refine And.intro (by omega) ?_) | (refine SW.seq_k fun K hK => ?_) | (refine SW.block ?_) | ((first | refine SW.region ?_ | refine SW.cond ?_ | refine SW.skip ?_ | refine Call.of_pure (kp) ?_ | (refine allF_i fun b hb => ?_; replace hD := And.intro hb hD; clear hb; try simp only [fresh_cons, fresh_nil, and_true, ne_eq, neF] at hD) | simp only [appK, appOsK]); try simp only [go_sem, hD, hli, ie, i0, w1, fi, mf, ba, true_implies]) | (refine And.intro (by omega) ?_) | (apply hK; clear hK K)
          refine Rnd.le ((St.le_slist (List.Sublist.cons_cons _ (List.Sublist.cons _ (List.Sublist.cons _ (List.Sublist.refl _))))).trans (St.le_perm (h' := [(mb, .mp (mapB Ks)), (b, .ints .i64 [yi])]) (List.Perm.swap _ _ _))) ?_
          refine Rnd.sub (fr.length - (k2 + 1)) (by omega) ((hI _ _).2 ⟨k2 + 1, .os b 0 1 1, [(b, .ints .i64 [yi])], rfl, by omega, .inr ⟨b, by simp [hD], by simp [hD], by rw [hst2]; rfl, by rw [hst2]⟩, rfl⟩) (by repeat' (first | exact rfl | exact trivial | constructor))
        · have hD := And.intro (eq_false u1) (eq_false u2)
          have hst2 : (W (k2 + 1)).length = (W k2).length + 1 := by rw [hst, List.length_append]; rfl
          repeat' first | (with_reducible refine And.intro (by omega) ?_) | (refine SW.seq_k fun K hK => ?_) | (refine SW.block ?_) | ((first | refine SW.region ?_ | refine SW.cond ?_ | refine SW.skip ?_ | refine Call.of_pure (kp) ?_ | (refine allF_i fun b hb => ?_; replace hD := And.intro hb hD; clear hb; try simp only [fresh_cons, fresh_nil, and_true, ne_eq, neF] at hD) | simp only [appK, appOsK]); try simp only [go_sem, hD, hli, ie, i0, w1, fi, mf, ba, true_implies]) | (apply hK; clear hK K)
          refine Rnd.le (St.le_slist (List.Sublist.cons _ (List.Sublist.cons _ (List.Sublist.refl _)))) ?_
          refine Rnd.sub (fr.length - (k2 + 1)) (by omega) ((hI _ _).2 ⟨k2 + 1, .os b 0 ((W k2).length + 1) 1, [(b, .ints .i64 (W k2 ++ [yi]))], rfl, by omega, .inr ⟨b, by simp [hD], by simp [hD], by rw [hst2], by rw [hst]⟩, rfl⟩) (by repeat' (first | exact rfl | exact trivial | constructor))
    · have hli : ¬ ((k2 : Nat) : Int) < (((fr.length) : Nat) : Int) := by omega
      obtain rfl : k2 = fr.length := by omega
      generalize W fr.length = R at *
      rcases hB with ⟨rfl, rfl, rfl⟩ | ⟨g, u1, u2, rfl, rfl⟩
      · repeat' first | (refine SW.seq_k fun K hK => ?_) | ((first | refine SW.region ?_ | refine SW.cond ?_ | refine SW.exit ?_ | refine SW.ret ?_); try simp only [go_sem, hD, hli, true_implies]) | (apply hK; clear hK K) | (clear hK K; apply hK; clear hK K)
        refine retQ_le (S' := ⟨[(4, IL []), (5, I64 0)], []⟩) ?_ ?_
        · refine St.le.trans (St.le_say (i := 4) (v := IL []) (fun E u hr => Rep.fl_nil hr)) ?_
          exact St.le.trans St.le_drop (St.le_sub (by repeat' (first | exact rfl | exact trivial | constructor)))
        simp only [resL_tmp, resL_nil, tupOf, go_sem, hD]
        try exact rfl
      · have hD := And.intro (eq_false u1) (eq_false u2)
        repeat' first | (refine SW.seq_k fun K hK => ?_) | ((first | refine SW.region ?_ | refine SW.cond ?_ | refine SW.exit ?_ | refine SW.ret ?_); try simp only [go_sem, hD, hli, true_implies]) | (apply hK; clear hK K) | (clear hK K; apply hK; clear hK K)
        refine retQ_le ((St.le_ints (i := 4) .i64 R rfl rfl (by rw [find_cons, if_neg u2, find_cons, if_pos rfl]) rfl).trans St.le_drop) ?_
        simp only [resL_tmp, resL_nil, tupOf, go_sem, hD]
        try exact rfl
end Go.Proofs.YtpidncgibgiidaaGreat
namespace Go.Ab.A15
open Go Go.Ab Go.Ab.A34
theorem emp_nil9 : emp (⟨#[]⟩ : ByteArray) = true := barr_eq.2 rfl
theorem code_okV9 (c : Int) : okV (codeV c) = true := by
  have e := emp_nil9
  unfold codeV
  repeat' split
  all_goals (unfold okV vok; simp [e])
  all_goals decide
theorem nm_ok9 : ∀ n, n < 6 → namesB (nm8.take n) = true := by decide +kernel
theorem nmT_ok (i : Nat) : nameB (nmT i).data.toList = true := by
  unfold nmT
  split
  · decide +kernel
  · split <;> decide +kernel
theorem nmT_inj {i j : Nat} (hi : i < 3) (hj : j < 3) (h : nmT i = nmT j) : i = j := by
  have k1 : ¬ (⟨#[114]⟩ : ByteArray) = ⟨#[115]⟩ := by decide
  have k2 : ¬ (⟨#[114]⟩ : ByteArray) = ⟨#[116]⟩ := by decide
  have k3 : ¬ (⟨#[115]⟩ : ByteArray) = ⟨#[116]⟩ := by decide
  have hi3 : i = 0 ∨ i = 1 ∨ i = 2 := by omega
  have hj3 : j = 0 ∨ j = 1 ∨ j = 2 := by omega
  rcases hi3 with rfl | rfl | rfl <;> rcases hj3 with rfl | rfl | rfl <;> first | rfl | (simp only [nmT, if_pos, if_neg, if_true, if_false, reduceCtorEq, Nat.reduceEqDiff, ↓reduceIte] at h; first | exact absurd h k1 | exact absurd h k2 | exact absurd h k3 | exact absurd h.symm k1 | exact absurd h.symm k2 | exact absurd h.symm k3)
theorem tabD_attrs (x : Rc) (i : Nat) : (tabD x i).attrs.length ≤ 3 := by
  show (nm8.take (x.attrs % 4 % 6).toNat).length ≤ 3
  rw [List.length_take]
  have : (x.attrs % 4 % 6).toNat ≤ 3 := by omega
  omega
theorem tabD_rows (x : Rc) (i : Nat) : (tabD x i).rows.length = x.rows.length := by
  show ((List.range x.rows.length).map _).length = _
  simp
theorem tabD_rlen (x : Rc) (i : Nat) : ∀ r ∈ (tabD x i).rows, r.2.length ≤ 6 := fun r hr => by
  obtain ⟨k, _, rfl⟩ := List.mem_map.1 hr
  show (((List.range (x.attrs % 4 % 6).toNat).map _).length) ≤ 6
  rw [List.length_map, List.length_range]
  omega
theorem tabD_valid (x : Rc) (i : Nat) (h : x.rows.length ≤ 1000) : validS (tabD x i) = 0 := by
  obtain ⟨n, hn0⟩ : ∃ n, n = (x.attrs % 4 % 6).toNat := ⟨_, rfl⟩
  have hn : n < 6 := by omega
  have hal : (nm8.take n).length = n := by
    rw [List.length_take]
    have : nm8.length = 8 := rfl
    omega
  obtain ⟨g, hg⟩ : ∃ g, g = 1 + x.gap % 3 := ⟨_, rfl⟩
  have hg1 : 1 ≤ g := by omega
  have hr : ∀ (k j : Nat) (p : Int), p < 1 + (j : Int) * g → rowsV n p ((List.range' j k).map fun i => rowS x.gap n i (x.rows.getD i [])) = 0 := fun k => by
    induction k with
    | zero => intro j p _; rfl
    | succ k ih =>
      intro j p hp
      have e1 : (rowS x.gap n j (x.rows.getD j [])).1 = 1 + (j : Int) * g := by rw [hg]; rfl
      rw [List.range'_succ, List.map_cons, rowsV, e1, if_neg (by omega), if_neg (by simp [rowS]), if_pos (by
        rw [List.all_eq_true]
        intro v hv
        unfold rowS at hv
        obtain ⟨c, _, rfl⟩ := List.mem_map.1 hv
        exact code_okV9 _)]
      refine ih (j + 1) _ ?_
      have : ((j + 1 : Nat) : Int) * g = (j : Int) * g + g := by rw [Int.natCast_add, Int.add_mul]; simp
      rw [this]
      omega
  have hlen := tabD_rows x i
  have hat : (tabD x i).attrs = nm8.take n := by rw [hn0]; rfl
  have hro : (tabD x i).rows = (List.range x.rows.length).map fun i => rowS x.gap n i (x.rows.getD i []) := by rw [hn0]; rfl
  unfold validS
  rw [if_pos (show nameB (tabD x i).name.data.toList = true from nmT_ok i), if_neg (show ¬ (16 < (tabD x i).attrs.length ∨ 1000 < (tabD x i).rows.length) by rw [hlen, hat, hal]; omega), hat, if_pos (nm_ok9 n hn), hro, List.range_eq_range', hal]
  exact hr _ 0 0 (by omega)
theorem chkF_zero {db : List Tb} (hv : ∀ j, j < db.length → validS (db.getD j t0) = 0) (hn : ∀ j, j < db.length → tabI (db.getD j t0).name 0 (db.take j) < 0) : ∀ (g i : Nat), i + g = db.length → chkF db g i = 0
  | 0, i, _ => rfl
  | g + 1, i, h => by
    have h1 := hn i (by omega)
    unfold chkF
    rw [if_neg (fun x => x (hv i (by omega))), if_neg (by omega)]
    exact chkF_zero hv hn g (i + 1) (by omega)
theorem chkS_of {db : List Tb} (h : Vdb db) (hl : db.length ≤ 50) : chkS db = 0 := by
  unfold chkS
  rw [if_neg (by omega)]
  refine chkF_zero (fun j hj => h.v _ (getD_mem' t0 hj)) (fun j hj => ?_) _ 0 (by omega)
  rcases tabI_is (x := (db.getD j t0).name) (l := db.take j) (i := 0) with ⟨h1, _⟩ | ⟨k, _, h2, h3, _⟩
  · omega
  · exfalso
    rw [List.length_take] at h2
    have e : (db.take j).getD k t0 = db.getD k t0 := by simp [List.getD_eq_getElem?_getD, List.getElem?_take, show k < j by omega]
    rw [e] at h3
    have hp := List.pairwise_iff_getElem.1 h.n k j (by unfold nmsOf; rw [List.length_map]; omega) (by unfold nmsOf; rw [List.length_map]; omega) (by omega)
    unfold nmsOf at hp
    rw [List.getElem_map, List.getElem_map] at hp
    refine hp ?_
    rw [show db.getD k t0 = db[k] by simp [List.getD_eq_getElem?_getD, show k < db.length by omega], show db.getD j t0 = db[j] by simp [List.getD_eq_getElem?_getD, hj]] at h3
    exact h3
theorem fitsS_of {db : List Tb} {d : Dp} (h : Fit (nmsOf db) (nsOf db) d) : fitsS db d = 0 := by
  have ef := tabI_idx (i := 0) h.f
  have et := tabI_idx (i := 0) h.t
  have gn : ∀ i, (nsOf db).getD i 0 = (db.getD i t0).attrs.length := fun i => by
    unfold nsOf
    simp only [List.getD_eq_getElem?_getD, List.getElem?_map]
    cases db[i]? <;> rfl
  unfold fitsS
  rw [ef, et]
  simp only [Nat.zero_add, Int.toNat_natCast]
  rw [if_neg (by omega), if_neg, if_pos ⟨h.nl, h.nr⟩]
  rintro (h1 | h1 | h1)
  · exact h1 h.lr
  · have := winB_iff.2 (fun a ha => by have := h.l a ha; rw [gn] at this; exact this : ∀ a ∈ d.l, 0 ≤ a ∧ a < ((db.getD (idxN d.f (nmsOf db)) t0).attrs.length : Int))
    rw [this] at h1
    cases h1
  · have := winB_iff.2 (fun a ha => by have := h.r a ha; rw [gn] at this; exact this : ∀ a ∈ d.r, 0 ≤ a ∧ a < ((db.getD (idxN d.t (nmsOf db)) t0).attrs.length : Int))
    rw [this] at h1
    cases h1
structure Dra (db : List Tb) : Prop where
  vd : Vdb db
  n3 : db.length ≤ 3
  a3 : ∀ t ∈ db, t.attrs.length ≤ 3
  rl : ∀ t ∈ db, ∀ r ∈ t.rows, r.2.length ≤ 6
  r6 : ∀ t ∈ db, t.rows.length ≤ 6
  nm : ∀ j, j < db.length → (db.getD j t0).name = nmT j
theorem ofT_dra {d : List Rc} (h : goodD d) : Dra (ofT d) := by
  have hl : (ofT d).length = min d.length 3 := by simp [ofT]
  have hm : ∀ t ∈ ofT d, ∃ i, i < min d.length 3 ∧ t = tabD (d.getD i rc0) i := fun t ht => by
    obtain ⟨i, hi, rfl⟩ := List.mem_map.1 ht
    exact ⟨i, List.mem_range.1 hi, rfl⟩
  have hg : ∀ j, j < (ofT d).length → ((ofT d).getD j t0).name = nmT j := fun j hj => by
    rw [hl] at hj
    unfold ofT
    rw [getD_range _ _ hj]
    rfl
  refine ⟨⟨fun t ht => ?_, ?_⟩, by omega, fun t ht => ?_, fun t ht => ?_, fun t ht => ?_, hg⟩
  · obtain ⟨i, hi, rfl⟩ := hm t ht
    exact tabD_valid _ _ (by have := h i hi; omega)
  · refine List.pairwise_iff_getElem.2 fun i j hi hj hij e => ?_
    unfold nmsOf at hi hj e
    rw [List.length_map] at hi hj
    rw [List.getElem_map, List.getElem_map] at e
    have g1 := hg i hi
    have g2 := hg j hj
    rw [show (ofT d).getD i t0 = (ofT d)[i] by simp [List.getD_eq_getElem?_getD, hi]] at g1
    rw [show (ofT d).getD j t0 = (ofT d)[j] by simp [List.getD_eq_getElem?_getD, hj]] at g2
    rw [g1, g2] at e
    have := nmT_inj (by omega) (by omega) e
    omega
  · obtain ⟨i, hi, rfl⟩ := hm t ht
    exact tabD_attrs _ _
  · obtain ⟨i, hi, rfl⟩ := hm t ht
    exact tabD_rlen _ _
  · obtain ⟨i, hi, rfl⟩ := hm t ht
    rw [tabD_rows]
    exact h i hi
theorem idx_at {db : List Tb} (h : (nmsOf db).Nodup) {j : Nat} (hj : j < db.length) : (db.getD j t0).name ∈ nmsOf db ∧ idxN (db.getD j t0).name (nmsOf db) = j := by
  have hm : (db.getD j t0).name ∈ nmsOf db := List.mem_map.2 ⟨_, getD_mem' t0 hj, rfl⟩
  refine ⟨hm, ?_⟩
  have h2 := idxN_lt hm
  have h2' : idxN (db.getD j t0).name (nmsOf db) < db.length := by unfold nmsOf at h2; rwa [List.length_map] at h2
  rcases tabI_is (x := (db.getD j t0).name) (l := db) (i := 0) with ⟨_, h3⟩ | ⟨k, e1, h4, h5, _⟩
  · exact absurd rfl (h3 _ (getD_mem' t0 hj))
  · have e2 := tabI_idx (i := 0) hm
    have ek : idxN (db.getD j t0).name (nmsOf db) = k := by omega
    rw [ek]
    refine Classical.byContradiction fun hne => ?_
    have hp := List.pairwise_iff_getElem.1 h
    have g1 : db.getD j t0 = db[j] := by simp [List.getD_eq_getElem?_getD, hj]
    have g2 : db.getD k t0 = db[k] := by simp [List.getD_eq_getElem?_getD, h4]
    rcases Nat.lt_or_gt_of_ne hne with hlt | hgt
    · have := hp k j (by unfold nmsOf; rw [List.length_map]; exact h4) (by unfold nmsOf; rw [List.length_map]; exact hj) hlt
      unfold nmsOf at this
      rw [List.getElem_map, List.getElem_map, ← g1, ← g2] at this
      exact this h5
    · have := hp j k (by unfold nmsOf; rw [List.length_map]; exact hj) (by unfold nmsOf; rw [List.length_map]; exact h4) hgt
      unfold nmsOf at this
      rw [List.getElem_map, List.getElem_map, ← g1, ← g2] at this
      exact this h5.symm
end Go.Ab.A15
namespace Go.Ab.A15
open Go Go.Ab Go.Ab.A34
theorem dra_okdb {db : List Tb} (h : Dra db) : OkDb db := fun t ht r hr => by have := h.rl t ht r hr; omega
end Go.Ab.A15
namespace Go.Proofs.YtpidncgibgiidaaGreat
open Go Go.Ab Go.Ab.A34 Go.Ab.A15
theorem ofV_bad {d : List Rc} (h : ¬ goodD d) : ofV d = .tup [.agg [SN], SB false] := if_neg h
theorem ofV_good {d : List Rc} (h : goodD d) : ofV d = .tup [DB (ofT d), SB (decide (d.length ≤ 3))] := if_pos h
end Go.Proofs.YtpidncgibgiidaaGreat
namespace Go.Ab.A15
open Go Go.Ab Go.Ab.A34
def hldB (db : List Tb) (d : Dp) : Bool := decide (vE db d = 0) && (violS (rowsAt db d.f) (rowsAt db d.t) d.l d.r).isEmpty
theorem viol_nil {F T : List R3} {a b : List Int} : violS F T a b = [] ↔ ∀ x ∈ F, ∃ y ∈ T, Agr v0 a b x.2 y.2 := by
  unfold violS violP
  rw [List.take_length, List.map_eq_nil_iff, List.filter_eq_nil_iff]
  constructor
  · intro h x hx
    have := h x hx
    simp only [Bool.not_eq_true', Bool.not_eq_false, List.any_eq_true] at this
    obtain ⟨y, hy, e⟩ := this
    exact ⟨y, hy, agB_iff.1 e⟩
  · intro h x hx
    obtain ⟨y, hy, e⟩ := h x hx
    simp only [Bool.not_eq_true', Bool.not_eq_false, List.any_eq_true]
    exact ⟨y, hy, agB_iff.2 e⟩
theorem posFd_step {p : Dp → Bool} {l : List Dp} {i : Nat} (h : i < l.length) : posF p i (l.drop i) = if p (l.getD i d0) = true then (i : Int) else posF p (i + 1) (l.drop (i + 1)) := posF_step d0 h
end Go.Ab.A15
namespace Go.Proofs.YtpidncgibgiidaaGreat
open Go Go.Ab Go.Ab.A34 Go.Ab.A15
variable [Gl] [Tabs]
theorem indexF_d (g : FuncId) (caps : List SV) (p : Dp → Bool) (l : List Dp) (hl : l.length ≤ 1000000) (hg : ∀ d ∈ l, PCall Tryz.prog g (DV d :: caps) (SB (p d))) : PCall Tryz.prog 52 [DpL l, .fn (.func g) [] caps] (I64 (posF p 0 l)) := by
  obtain ⟨R, hR⟩ : ∃ R, R = posF p 0 l := ⟨_, rfl⟩
  rw [← hR]
  refine Call.enter' (N := 19) (rs := [.tmp 4]) Tryz.func52 rfl rfl rfl (by decide) rfl ?_; simp only [argT]; have hD : (0 : Nat) = 0 := rfl
  repeat' first | (refine SW.seq_k fun K hK => ?_) | (refine SW.block ?_) | (refine SW.region ?_; try simp only [go_sem, hD]) | (apply hK; clear hK K)
  obtain ⟨I, hI⟩ : ∃ I : Nat → St → Prop, ∀ k S, I k S ↔ (∃ (i : Nat) , k = l.length - i ∧ i ≤ l.length ∧ R = posF p i (l.drop i) ∧ S = ⟨[(0, DpL l), (1, .fn (.func g) [] caps), (7, I64 l.length), (8, I64 i)], []⟩) := ⟨fun k S => _, fun _ _ => Iff.rfl⟩
  refine SW.loop' I (l.length) ((hI _ _).2 ⟨0, rfl, Nat.zero_le _, hR, rfl⟩) (by repeat' (first | exact rfl | exact trivial | constructor)) ?_
  intro k S hIn
  obtain ⟨i, rfl, hi, hC, rfl⟩ := (hI _ _).1 hIn
  clear hIn
  have ie : ((i : Nat) : Int).toNat = i := Int.toNat_natCast _
  have i0 : (0 : Int) ≤ ((i : Nat) : Int) := by omega
  clear hR
  by_cases hlt : i < l.length
  · have hli : ((i : Nat) : Int) < (((l.length) : Nat) : Int) := by omega
    have w1 : IntKind.i64.wrap ((i : Int) + 1) = ((i + 1 : Nat) : Int) := by rw [i64_wrap (by omega) (by omega)]; omega
    rw [posFd_step hlt] at hC
    have fi : dpF l i = dC (l.getD i d0) := rfl
    have c := hg _ (getD_mem' d0 hlt)
    generalize l.getD i d0 = t at *
    obtain ⟨df, dl, dt, dr⟩ := t
    cases he : p ⟨df, dl, dt, dr⟩ with
    | true =>
      rw [he] at c
      rw [he, if_pos rfl] at hC
      subst hC
      repeat' first | (refine SW.seq_k fun K hK => ?_) | (refine SW.block ?_) | ((first | refine SW.region ?_ | refine SW.cond ?_ | refine SW.skip ?_ | refine SW.ret ?_ | refine Call.of_pure (c) ?_); try simp only [go_sem, hD, hli, ie, i0, w1, fi]) | (apply hK; clear hK K)
      refine ret_pure ?_; simp only [resL_tmp, resL_nil, tupOf, go_sem, hD]
    | false =>
      rw [he] at c
      rw [he, if_neg (by simp)] at hC
      repeat' first | (refine SW.seq_k fun K hK => ?_) | (refine SW.block ?_) | ((first | refine SW.region ?_ | refine SW.cond ?_ | refine SW.skip ?_ | refine Call.of_pure (c) ?_); try simp only [go_sem, hD, hli, ie, i0, w1, fi]) | (apply hK; clear hK K)
      refine Rnd.sub (l.length - (i + 1)) (by omega) ((hI _ _).2 ⟨i + 1, rfl, by omega, hC, rfl⟩) (by repeat' (first | exact rfl | exact trivial | constructor))
  · have hli : ¬ ((i : Nat) : Int) < (((l.length) : Nat) : Int) := by omega
    rw [List.drop_of_length_le (by omega)] at hC
    have hC2 : R = -1 := hC
    subst hC2
    repeat' first | (refine SW.seq_k fun K hK => ?_) | ((first | refine SW.region ?_ | refine SW.cond ?_ | refine SW.exit ?_ | refine SW.ret ?_); try simp only [go_sem, hD, hli]) | (apply hK; clear hK K) | (clear hK K; apply hK; clear hK K)
    refine ret_pure ?_; simp only [resL_tmp, resL_nil, tupOf, go_sem, hD]
theorem contF_d (g : FuncId) (caps : List SV) (p : Dp → Bool) (l : List Dp) (hl : l.length ≤ 1000000) (hg : ∀ d ∈ l, PCall Tryz.prog g (DV d :: caps) (SB (p d))) : PCall Tryz.prog 20 [DpL l, .fn (.func g) [] caps] (SB (l.any p)) := by
  have ix := indexF_d g caps p l hl hg
  have hm := posF_any p l 0
  generalize posF p 0 l = z at *
  cases ha : l.any p with
  | true =>
    have hz := hm.2 ha
    refine Call.enter' (N := 9) (rs := [.tmp 4]) Tryz.func20 rfl rfl rfl (by decide) rfl ?_; simp only [argT]; have hD : (0 : Nat) = 0 := rfl
    repeat' first | (refine SW.seq_k fun K hK => ?_) | ((first | refine SW.region ?_ | refine SW.ret ?_ | refine Call.of_pure (ix) ?_); try simp only [go_sem, hD, hz, true_implies]) | (apply hK; clear hK K)
    refine ret_pure ?_; simp only [resL_tmp, resL_nil, tupOf, go_sem, hD]
  | false =>
    have hz : ¬ 0 ≤ z := fun h => by have := hm.1 h; rw [ha] at this; cases this
    refine Call.enter' (N := 9) (rs := [.tmp 4]) Tryz.func20 rfl rfl rfl (by decide) rfl ?_; simp only [argT]; have hD : (0 : Nat) = 0 := rfl
    repeat' first | (refine SW.seq_k fun K hK => ?_) | ((first | refine SW.region ?_ | refine SW.ret ?_ | refine Call.of_pure (ix) ?_); try simp only [go_sem, hD, hz, true_implies]) | (apply hK; clear hK K)
    refine ret_pure ?_; simp only [resL_tmp, resL_nil, tupOf, go_sem, hD]
end Go.Proofs.YtpidncgibgiidaaGreat
namespace Go.Ab.A15
open Go Go.Ab Go.Ab.A34
def cmp3 (a b : V3) : Int := cmpV a.1 a.2.1 a.2.2 b.1 b.2.1 b.2.2
def lexV : List V3 → List V3 → Int
  | a :: x, b :: y => if cmp3 a b = 0 then lexV x y else cmp3 a b
  | x, y => sgn x.length y.length
theorem lexV_nil (y : List V3) : lexV [] y = sgn 0 y.length := by
  cases y <;> rfl
theorem lexV_nil' (x : List V3) : lexV x [] = sgn x.length 0 := by
  cases x <;> rfl
theorem lexV_step {x y : List V3} {i : Nat} (hx : i < x.length) (hy : i < y.length) : lexV (x.drop i) (y.drop i) = if cmp3 (x.getD i v0) (y.getD i v0) = 0 then lexV (x.drop (i + 1)) (y.drop (i + 1)) else cmp3 (x.getD i v0) (y.getD i v0) := by
  have g1 : x.getD i v0 = x[i] := by simp [List.getD_eq_getElem?_getD, hx]
  have g2 : y.getD i v0 = y[i] := by simp [List.getD_eq_getElem?_getD, hy]
  rw [List.drop_eq_getElem_cons hx, List.drop_eq_getElem_cons hy, g1, g2, lexV]
theorem sgn_add (a b i : Nat) : sgn ((i + a : Nat) : Int) ((i + b : Nat) : Int) = sgn (a : Int) (b : Int) := by
  unfold sgn
  split <;> split <;> (try split) <;> (try split) <;> omega
theorem lexV_end {x y : List V3} {i : Nat} (hx : i ≤ x.length) (hy : i ≤ y.length) (h : ¬ (i < x.length ∧ i < y.length)) : lexV (x.drop i) (y.drop i) = sgn x.length y.length := by
  by_cases h1 : i < x.length
  · have h2 : y.length = i := by omega
    rw [List.drop_of_length_le (show y.length ≤ i by omega), lexV_nil', List.length_drop]
    have := sgn_add (x.length - i) 0 i
    rw [show i + (x.length - i) = x.length by omega, show i + 0 = y.length by omega] at this
    rw [this]
    rfl
  · have h2 : x.length = i := by omega
    rw [List.drop_of_length_le (show x.length ≤ i by omega), lexV_nil, List.length_drop]
    have := sgn_add 0 (y.length - i) i
    rw [show i + (y.length - i) = y.length by omega, show i + 0 = x.length by omega] at this
    rw [this]
    rfl
theorem cmp3_zero {a b : V3} : cmp3 a b = 0 ↔ a = b := by
  unfold cmp3
  rw [cmpV_zero]
  obtain ⟨a1, a2, a3⟩ := a
  obtain ⟨b1, b2, b3⟩ := b
  simp
theorem lexV_zero : ∀ {x y : List V3}, lexV x y = 0 ↔ x = y
  | [], y => by
    rw [lexV_nil, sgn_zero]
    cases y with
    | nil => simp
    | cons b y => simp; omega
  | a :: x, [] => by
    rw [lexV_nil', sgn_zero]
    simp
    omega
  | a :: x, b :: y => by
    rw [lexV]
    by_cases h : cmp3 a b = 0
    · rw [if_pos h, lexV_zero, cmp3_zero.1 h]
      simp
    · rw [if_neg h]
      constructor
      · intro h2; exact absurd h2 h
      · intro h2
        rw [List.cons.injEq] at h2
        exact absurd (cmp3_zero.2 h2.1) h
def SzV (x : List V3) : Prop := x.length ≤ 1000 ∧ ∀ v ∈ x, v.2.2.size ≤ 1000
end Go.Ab.A15
def Go.Ab.zRA_1 : Go.Ab.OZ := (.one 0 [0, 2, 3, 8, 9] (.one 1 [1, 2, 3, 8, 9] (.one 2 [2, 3, 8, 9] (.one 3 [3, 8, 9] (.one 4 [4, 6, 7, 8, 9] (.one 5 [5, 6, 7, 8, 9] (.one 6 [6, 7, 8, 9] (.one 7 [7, 8, 9] (.one 8 [8, 9] (.one 9 [9] .done))))))))))
namespace Go.Proofs.YtpidncgibgiidaaGreat
open Go Go.Ab Go.Ab.A34 Go.Ab.A15
variable [Gl] [Tabs]
theorem lists_r (x y : List V3) (hx : SzV x) (hy : SzV y) : PCall Tryz.prog 82 [VL x, VL y] (I64 (lexV x y)) := by
  obtain ⟨R, hR⟩ : ∃ R, R = lexV x y := ⟨_, rfl⟩
  rw [← hR]
  have hR0 : R = lexV (x.drop 0) (y.drop 0) := hR
  clear hR
  have hxl := hx.1
  have hyl := hy.1
  refine Call.enter' (N := 36) (rs := [.tmp 4]) Tryz.func82 rfl rfl rfl (by decide) rfl ?_; simp only [argT]; have hD : (0 : Nat) = 0 := rfl
  repeat' first | (refine SW.seq_k fun K hK => ?_) | (refine SW.block ?_) | (refine SW.region ?_; try simp only [go_sem, hD]) | (apply hK; clear hK K)
  obtain ⟨I, hI⟩ : ∃ I : Nat → St → Prop, ∀ k S, I k S ↔ (∃ (i : Nat) , k = min x.length y.length - i ∧ i ≤ min x.length y.length ∧ R = lexV (x.drop i) (y.drop i) ∧ S = ⟨[(0, VL x), (1, VL y), (4, I64 0), (5, I64 i)], []⟩) := ⟨fun k S => _, fun _ _ => Iff.rfl⟩
  refine SW.loop' I (min x.length y.length) ((hI _ _).2 ⟨0, rfl, Nat.zero_le _, hR0, rfl⟩) (by repeat' (first | exact rfl | exact trivial | constructor)) ?_
  intro k S hIn
  obtain ⟨i, rfl, hi, hC, rfl⟩ := (hI _ _).1 hIn
  clear hIn
  have ie : ((i : Nat) : Int).toNat = i := Int.toNat_natCast _
  have i0 : (0 : Int) ≤ ((i : Nat) : Int) := by omega
  clear hR0
  by_cases hlt : i < x.length ∧ i < y.length
  · obtain ⟨h1, h2⟩ := hlt
    have hli : ((i : Nat) : Int) < ((x.length : Nat) : Int) := by omega
    have hlj : ((i : Nat) : Int) < ((y.length : Nat) : Int) := by omega
    have w1 : IntKind.i64.wrap ((i : Int) + 1) = ((i + 1 : Nat) : Int) := by rw [i64_wrap (by omega) (by omega)]; omega
    have fx : vF x i = vC (x.getD i v0) := rfl
    have fy : vF y i = vC (y.getD i v0) := rfl
    have sx := hx.2 _ (getD_mem v0 h1)
    have sy := hy.2 _ (getD_mem v0 h2)
    rw [lexV_step h1 h2] at hC
    generalize x.getD i v0 = v at *
    generalize y.getD i v0 = w at *
    obtain ⟨v1, v2, v3⟩ := v
    obtain ⟨u1, u2, u3⟩ := w
    simp only at sx sy
    have cr := compare_r v1 v2 v3 u1 u2 u3 (by omega) (by omega)
    have e3 : cmp3 (v1, v2, v3) (u1, u2, u3) = cmpV v1 v2 v3 u1 u2 u3 := rfl
    rw [e3] at hC
    generalize cmpV v1 v2 v3 u1 u2 u3 = c at *
    by_cases hc : c = 0
    · rw [if_pos hc] at hC
      subst hc
      repeat' first | (refine SW.seq_k fun K hK => ?_) | (refine SW.block ?_) | ((first | refine SW.region ?_ | refine SW.regionZ (id := 4) (Checked.mixed Tryz.checked) Go.Ab.zRA_1 (by kernel_rfl) ?_ | refine SW.cond ?_ | refine SW.skip ?_ | refine ⟨_, cr, ?_⟩); try simp only [Go.Ab.zRA_1, go_sem, hD, hli, hlj, ie, i0, w1, fx, fy, true_implies]) | (apply hK; clear hK K)
      all_goals
        refine Rnd.sub (min x.length y.length - (i + 1)) (by omega) ((hI _ _).2 ⟨i + 1, rfl, by omega, hC, rfl⟩) (by repeat' (first | exact rfl | exact trivial | constructor))
    · rw [if_neg hc] at hC
      subst hC
      repeat' first | (refine SW.seq_k fun K hK => ?_) | (refine SW.block ?_) | ((first | refine SW.region ?_ | refine SW.regionZ (id := 4) (Checked.mixed Tryz.checked) Go.Ab.zRA_1 (by kernel_rfl) ?_ | refine SW.cond ?_ | refine SW.skip ?_ | refine SW.ret ?_ | refine ⟨_, cr, ?_⟩); try simp only [Go.Ab.zRA_1, go_sem, hD, hli, hlj, ie, i0, w1, fx, fy, hc, true_implies]) | (apply hK; clear hK K)
      all_goals
        refine ret_pure ?_; simp only [resL_tmp, resL_nil, tupOf, go_sem, hD]
  · rw [lexV_end (by omega) (by omega) hlt] at hC
    have cs := sign_r x.length y.length
    by_cases h1 : i < x.length
    · have hli : ((i : Nat) : Int) < ((x.length : Nat) : Int) := by omega
      have hlj : ¬ ((i : Nat) : Int) < ((y.length : Nat) : Int) := by omega
      subst hC
      repeat' first | (refine SW.seq_k fun K hK => ?_) | ((first | refine SW.region ?_ | refine SW.cond ?_ | refine SW.exit ?_ | refine SW.ret ?_ | refine Call.of_pure (cs) ?_); try simp only [go_sem, hD, hli, hlj, true_implies]) | (apply hK; clear hK K) | (clear hK K; apply hK; clear hK K)
      refine ret_pure ?_; simp only [resL_tmp, resL_nil, tupOf, go_sem, hD]
    · have hli : ¬ ((i : Nat) : Int) < ((x.length : Nat) : Int) := by omega
      subst hC
      repeat' first | (refine SW.seq_k fun K hK => ?_) | ((first | refine SW.region ?_ | refine SW.cond ?_ | refine SW.exit ?_ | refine SW.ret ?_ | refine Call.of_pure (cs) ?_); try simp only [go_sem, hD, hli, true_implies]) | (apply hK; clear hK K) | (clear hK K; apply hK; clear hK K)
      refine ret_pure ?_; simp only [resL_tmp, resL_nil, tupOf, go_sem, hD]
theorem same_v (x y : List V3) (hx : SzV x) (hy : SzV y) : PCall Tryz.prog 38 [VL x, VL y] (SB (decide (x = y))) := by
  have c := lists_r x y hx hy
  have z := @lexV_zero x y
  generalize lexV x y = q at *
  by_cases h : q = 0
  · rw [decide_eq_true (z.1 h)]
    subst h
    refine Call.enter' (N := 9) (rs := [.tmp 4]) Tryz.func38 rfl rfl rfl (by decide) rfl ?_; simp only [argT]; have hD : (0 : Nat) = 0 := rfl
    repeat' first | (refine SW.seq_k fun K hK => ?_) | ((first | refine SW.region ?_ | refine SW.ret ?_ | refine Call.of_pure (c) ?_); try simp only [go_sem, hD, true_implies]) | (apply hK; clear hK K)
    refine ret_pure ?_; simp only [resL_tmp, resL_nil, tupOf, go_sem, hD]
  · rw [decide_eq_false (fun e => h (z.2 e))]
    refine Call.enter' (N := 9) (rs := [.tmp 4]) Tryz.func38 rfl rfl rfl (by decide) rfl ?_; simp only [argT]; have hD : (0 : Nat) = 0 := rfl
    repeat' first | (refine SW.seq_k fun K hK => ?_) | ((first | refine SW.region ?_ | refine SW.ret ?_ | refine Call.of_pure (c) ?_); try simp only [go_sem, hD, h, true_implies]) | (apply hK; clear hK K)
    refine ret_pure ?_; simp only [resL_tmp, resL_nil, tupOf, go_sem, hD]
end Go.Proofs.YtpidncgibgiidaaGreat
