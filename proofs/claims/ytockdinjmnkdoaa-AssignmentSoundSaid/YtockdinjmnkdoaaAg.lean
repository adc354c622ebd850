/- New slices; the yield of every operation that only computes or makes a block; its soundness. -/
import Derived.Test.YtockdinjmnkdoaaAf
namespace Go.Ab
open Go.RowKit

section
variable {P : Program} {M : Nat → Prop} {h : Heap} {w : World}

theorem length_zfill (z : List Value) : ∀ n, (zfill z n).length = n * z.length
  | 0 => by simp [zfill]
  | n + 1 => by simp [zfill, length_zfill z n, Nat.add_mul]; omega

theorem getD_zfill (z : List Value) : ∀ n i, i < n * z.length → (zfill z n).getD i .any = .sc (z.getD (i % z.length) undef)
  | 0, i, h => by omega
  | n + 1, i, h => by
    rw [Nat.add_mul, Nat.one_mul] at h
    by_cases hi : i < z.length
    · rw [Nat.mod_eq_of_lt hi, zfill, List.getD_eq_getElem?_getD, List.getElem?_append_left (by simpa using hi)]
      simp [hi]
    · rw [zfill, List.getD_eq_getElem?_getD, List.getElem?_append_right (by simpa using hi), ← List.getD_eq_getElem?_getD]
      simp only [List.length_map]
      rw [getD_zfill z n (i - z.length) (by omega)]
      congr 2
      exact (Nat.mod_eq_sub_mod (by omega)).symm

theorem getElem!_toArr (z : Array Value) (i : Nat) (hi : i < z.size) : z[i]! = z.toList.getD i undef := by
  simp [hi]

/-- The cells of a new slice, as the model lays them. -/
theorem mkCells (z : Array Value) (n i : Nat) (hi : i < n * z.size) : ((Array.range (n * z.size)).map (z[· % z.size]!)).getD i undef = z.toList.getD (i % z.size) undef := by
  have hs : 0 < z.size := Nat.pos_of_ne_zero (fun h => by rw [h] at hi; omega)
  have hm : i % z.size < z.size := Nat.mod_lt _ hs
  simp [hi, hm]

theorem zeros_len (z : List Value) (n : Nat) : (zeros z n).len ≤ n * z.length := by
  unfold zeros
  split <;> simp [Blk.len, length_zfill]

theorem zeros_get {E : Env} (z : Array Value) (n i : Nat) (hi : i < (zeros z.toList n).len) :
    Rep E (((Array.range (n * z.size)).map (z[· % z.size]!)).getD i undef) ((zeros z.toList n).get i) := by
  have hlt : i < n * z.size := Nat.lt_of_lt_of_le hi (by simpa using zeros_len z.toList n)
  rw [mkCells z n i hlt]
  generalize hz : z.toList = l at *
  have hsz : z.size = l.length := by rw [← hz]; simp
  rw [hsz] at hlt ⊢
  unfold zeros at *
  split
  · rename_i k
    simp only [List.length_singleton, Nat.mod_one] at *
    simp only [Blk.get, List.getD_cons_zero]
    rw [show (List.replicate n (0 : Int)).getD i 0 = 0 by simp [List.getD_eq_getElem?_getD, List.getElem?_replicate]; split <;> rfl]
    exact .sc _
  · simp only [List.length_singleton, Nat.mod_one] at *
    simp only [Blk.get, List.getD_cons_zero]
    rw [show (List.replicate n false).getD i false = false by simp [List.getD_eq_getElem?_getD, List.getElem?_replicate]; split <;> rfl]
    exact .sc _
  · simp only [Blk.get]
    rw [getD_zfill l n i hlt]
    exact .sc _

theorem i64_wrap {n : Int} (h1 : -9223372036854775808 ≤ n) (h2 : n ≤ 9223372036854775807) : IntKind.i64.wrap n = n := by
  have e : (2 : Int) ^ 64 = 18446744073709551616 := by decide
  have e' : (2 : Int) ^ 63 = 9223372036854775808 := by decide
  show (if (true && decide (n % (2 : Int) ^ 64 ≥ (2 : Int) ^ 63)) = true then n % (2 : Int) ^ 64 - (2 : Int) ^ 64 else n % (2 : Int) ^ 64) = n
  simp only [e, e', Bool.true_and, decide_eq_true_eq]
  split <;> omega

theorem make_sound {t : TypeId} {u u' : Value} {l c : SV} {pre : Prop} {k : Blk} {mk : Nat → SV} (hl : Rep (envOf (hid M h) w) u l) (hc : Rep (envOf (hid M h) w) u' c)
    (hv : makeSV (slk P t) (match slk P t with | some (e, _, _) => zk P e | none => none) l c = .new pre k mk) (hp : pre) : NewOK P M h w (Instr.makeSlice t u u') k mk := by
  cases hL : slk P t with
  | none => simp [hL, makeSV] at hv
  | some x =>
    obtain ⟨e, s, bytes⟩ := x
    simp only [hL] at hv
    cases hZ : zk P e with
    | none => simp [hZ, makeSV] at hv
    | some z =>
      simp only [hZ] at hv
      unfold makeSV at hv
      split at hv
      · rename_i _ _ s' bytes' z' kk n kk' m h1 h2
        cases h1; cases h2; cases hv
        cases hl; cases hc
        obtain ⟨h0, h1, h2, h3, h4, h5⟩ := hp
        obtain ⟨i, hu, hin, rfl, rfl⟩ := slk_spec hL
        obtain ⟨i', zv, hi', hzv, rfl⟩ := zk_spec hZ
        rw [hin] at hi'; cases hi'
        have hsz : zv.cells.size = i.size := by simpa using h4
        have e48 : (2 ^ 48 : Int) = 281474976710656 := by decide
        by_cases hm0 : m.toNat = 0
        · refine ⟨⟨#[], e, .slice (some ⟨w.heap.size, 0, none⟩) n.toNat m.toNat, ?_, ?_, fun j hj => ?_, ?_⟩⟩
          · have hn1 : ¬ (n < 0) := by omega
            have hn2 : ¬ (m < n) := by omega
            have hm1 : ¬ (m < 0) := by omega
            have hm2 : ¬ (281474976710656 < (i.bytes : Int) * m) := by omega
            simp [Instr.makeSlice, run_underlying hu, asInt, asIntOf, run_typeInfo hin, i64_wrap (n := n) (by omega) (by omega), i64_wrap (n := m) (by omega) (by omega), hn1, hn2, hm1, hm2, run_sizeOf_info hin, hm0, newRow, alc, Array.range_zero']
          · rw [hm0]; have := zeros_len zv.cells.toList 0; simp at this ⊢; omega
          · rw [hm0] at hj; have := zeros_len zv.cells.toList 0; simp at this; omega
          · rw [hm0]
            refine .os _ 0 _ _ _ 0 (by omega) ⟨_, _, _, heap_alc_new, by simp⟩ (by simp)
        · have hpos : 0 < m.toNat * i.size := Nat.mul_pos (Nat.pos_of_ne_zero hm0) h5
          refine ⟨⟨(Array.range (m.toNat * zv.cells.size)).map (zv.cells[· % zv.cells.size]!), e, .slice (some ⟨w.heap.size, 0, none⟩) n.toNat m.toNat, ?_, ?_, fun j hj => zeros_get _ _ _ hj, ?_⟩⟩
          · have hn1 : ¬ (n < 0) := by omega
            have hn2 : ¬ (m < n) := by omega
            have hm1 : ¬ (m < 0) := by omega
            have hm2 : ¬ (281474976710656 < (i.bytes : Int) * m) := by omega
            have hne : ¬ (m.toNat * i.size = 0) := by omega
            have hz0 := run_zeroValue (P := P) (w := w) hin hzv
            have hb : ((decide (m < 0) || decide ((i.bytes : Int) * m > 2 ^ 48)) || decide (n < 0) || decide (n > m)) = false := by rw [e48]; simp; omega
            simp only [Instr.makeSlice, Sem.run_bind, run_underlying hu, Result.andThen_ok, asInt, asIntOf, Sem.run_pure, run_typeInfo hin, i64_wrap (n := n) (by omega) (by omega), i64_wrap (n := m) (by omega) (by omega),
              hb, Bool.false_eq_true, if_false, run_askRoom, run_sizeOf_info hin, if_neg hne, hz0, newRow, run_newObj, hsz]
            rfl
          · have := zeros_len zv.cells.toList m.toNat; simpa using this
          · refine .os _ 0 _ _ _ (m.toNat * zv.cells.size) (by omega) ⟨_, _, _, heap_alc_new, by simp⟩ (by rw [hsz]; simp)
      · cases hv

end
end Go.Ab
