/- Every operation that only computes, or makes a block: the model's run yields what is said. -/
import Derived.Test.YtockdinjmnkdoaaAh
namespace Go.Ab
open Go.RowKit

section
variable {P : Program} {M : Nat → Prop} {h : Heap} {w : World}

def asNext (x : Sem Value) : Sem Next := do pure (.value (← x))

theorem run_asNext {x : Sem Value} {r : Value} {w' : World} (hx : x.run P w = .ok r w') : (asNext x).run P w = .ok (.value r) w' := by
  simp [asNext, hx]

theorem pairs_map {σ : Operand → Value} (ps : Array (Nat × Operand)) (ρ : Operand → SV) : (ps.map fun (i, x) => (i, σ x)).toList.map (·.1) = (ps.toList.map fun (i, x) => (i, ρ x)).map (·.1) := by
  simp [Function.comp_def]

theorem pairs_rep {E : Env} {σ : Operand → Value} {ρ : Operand → SV} (hr : ∀ x, Rep E (σ x) (ρ x)) (ps : Array (Nat × Operand)) :
    ∀ i, i < (ps.toList.map fun (i, x) => (i, ρ x)).length → Rep E ((ps.map fun (i, x) => (i, σ x)).toList.getD i (0, undef)).2 ((ps.toList.map fun (i, x) => (i, ρ x)).getD i (0, .any)).2 := by
  intro i hi
  simp only [List.length_map, Array.length_toList] at hi
  simp only [Array.toList_map, List.getD_eq_getElem?_getD, List.getElem?_map, Array.getElem?_toList, Array.getElem?_eq_getElem hi, Option.map_some, Option.getD_some]
  exact hr _

theorem ops_rep {E : Env} {σ : Operand → Value} {ρ : Operand → SV} (hr : ∀ x, Rep E (σ x) (ρ x)) (xs : Array Operand) :
    (xs.map σ).size = (xs.toList.map ρ).length ∧ ∀ i, i < (xs.toList.map ρ).length → Rep E ((xs.map σ).getD i undef) ((xs.toList.map ρ).getD i .any) := by
  refine ⟨by simp, fun i hi => ?_⟩
  simp only [List.length_map, Array.length_toList] at hi
  rw [getD_toList]
  simp only [Array.toList_map, List.getD_eq_getElem?_getD, List.getElem?_map, Array.getElem?_toList, Array.getElem?_eq_getElem hi, Option.map_some, Option.getD_some]
  exact hr _

theorem orep {E : Env} {σ : Operand → Value} {ρ : Operand → SV} (hr : ∀ x, Rep E (σ x) (ρ x)) (o : Option Operand) : ORep E (o.map σ) (o.map ρ) := by
  cases o with
  | none => trivial
  | some x => exact hr x

theorem valOp_ok {o : Oper} {σ : Operand → Value} {ρ : Operand → SV} {pre : Prop} {v : SV} (own : Owns M h w) (hr : ∀ x, Rep (envOf (hid M h) w) (σ x) (ρ x))
    (hv : valOp P o.op ρ h = .ok pre v) (hp : pre) : ∃ r, (execOp σ o).run P w = .ok (.value r) w ∧ Rep (envOf (hid M h) w) r v := by
  obtain ⟨dst, op, type, pos, after, guard⟩ := o
  simp only at hv
  have via : ∀ {x : Sem Value}, (∃ r, x.run P w = .ok r w ∧ Rep (envOf (hid M h) w) r v) → ∃ r, (asNext x).run P w = .ok (.value r) w ∧ Rep (envOf (hid M h) w) r v :=
    fun ⟨r, h1, h2⟩ => ⟨r, run_asNext h1, h2⟩
  unfold valOp at hv
  split at hv
  · rename_i x; cases hv; exact ⟨_, rfl, hr x⟩
  · rename_i x; cases hv; exact ⟨_, rfl, hr x⟩
  · rename_i c a b
    have hc := hr c
    unfold pickSV at hv
    split at hv
    · rename_i t ht
      cases hv
      rw [ht] at hc
      generalize hcv : σ c = cv at hc
      cases hc
      refine ⟨if t then σ a else σ b, by simp [execOp, hcv, asBool], ?_⟩
      cases t
      · exact hr b
      · exact hr a
    · cases hv
  · exact via (bin_sound (hr _) (hr _) hv hp)
  · exact via (un_sound (hr _) hv)
  · exact via (load_sound own (hr _) hv hp)
  · exact via (indexAddr_sound (hr _) (hr _) hv hp)
  · exact via (index_sound (hr _) (hr _) hv hp)
  · exact via (fieldAddr_sound (hr _) hv hp)
  · exact via (field_sound (hr _) hv hp)
  · rename_i x i
    unfold tupSV at hv
    split at hv
    · rename_i cs ht
      cases hv
      exact via (tup_sound (ht ▸ hr x) hp)
    · cases hv
  · rename_i x
    unfold nilSV at hv
    have hx := hr x
    split at hv
    · rename_i cs ht
      cases hv
      rw [ht] at hx
      generalize hxv : σ x = xv at hx
      cases hx with
      | fp b off _ val hs hh => exact ⟨.pointer (some ⟨b, off, none⟩), by simp [execOp, hxv], .fp _ _ _ val hs hh⟩
    · rename_i b0 o0 ht
      cases hv
      rw [ht] at hx
      generalize hxv : σ x = xv at hx
      cases hx with
      | op b off => exact ⟨.pointer (some ⟨b0, o0, none⟩), by simp [execOp, hxv], .op _ _⟩
    · rename_i f a c ht
      cases hv
      rw [ht] at hx
      generalize hxv : σ x = xv at hx
      cases hx with
      | fn _ c1 c2 _ _ l1 l2 h1 h2 => exact ⟨.func (.func f) c1 c2, by simp [execOp, hxv], .fn _ _ _ _ _ l1 l2 h1 h2⟩
    · cases hv
  · rename_i t x lo hi mx
    cases mx with
    | some m => exact via (slice3_sound (hr x) (orep hr lo) (orep hr hi) (hr m) hv hp)
    | none => exact via (slice_sound (hr x) (orep hr lo) (orep hr hi) hv hp)
  · rename_i s d x
    by_cases hs : (P.underlying s).isSome = true
    · rw [hs] at hv
      exact via (conv_sound hs (hr x) hv hp)
    · simp only [Bool.not_eq_true] at hs
      rw [hs] at hv
      cases hv
  · rename_i e x; unfold boxSV at hv; split at hv <;> cases hv
  · rename_i e; unfold allocSV at hv; split at hv <;> cases hv
  · rename_i t ps
    exact via (build_sound (pairs_map ps ρ) (pairs_rep hr ps) hv)
  · rename_i t n ps
    unfold buildSliceSV at hv
    split at hv
    · cases hv
    · split at hv
      · cases hv
      · split at hv <;> cases hv
  · unfold makeSV at hv; split at hv <;> cases hv
  · rename_i fn a c
    cases hv
    obtain ⟨a1, a2⟩ := ops_rep hr a
    obtain ⟨c1, c2⟩ := ops_rep hr c
    exact ⟨.func fn (a.map σ) (c.map σ), rfl, .fn _ _ _ _ _ a1 c1 a2 c2⟩
  · rename_i x t
    obtain ⟨r, h1, h2⟩ := len_sound (t := t) (ty := type) (hr x) hv hp
    refine ⟨r, ?_, h2⟩
    simp [execOp, resolve, invoke, builtin, h1]
  · rename_i x t
    unfold capSV at hv
    split at hv
    · rename_i q l c heq h1
      cases hv
      have hx := hr x
      obtain ⟨e, s, b⟩ := q
      obtain ⟨i, hu, -, -, -⟩ := slk_spec heq
      rw [h1] at hx
      generalize hxv : σ x = xv at hx
      cases hx
      refine ⟨_, ?_, .sc _⟩
      simp [execOp, resolve, invoke, builtin, hxv, Builtin.cap_, run_underlying hu, goInt]
    · cases hv
  · rename_i x y at'
    unfold minSV at hv
    split at hv
    · rename_i k a k' b h1 h2
      cases hv
      have hx := hr x
      have hy := hr y
      rw [h1] at hx
      rw [h2] at hy
      generalize hxv : σ x = xv at hx
      generalize hyv : σ y = yv at hy
      cases hx; cases hy
      refine ⟨.int k (if b < a then b else a), ?_, .sc _⟩
      simp [execOp, resolve, invoke, builtin, hxv, hyv, Builtin.min_, Builtin.min2]
    · cases hv
  · rename_i x y at'
    unfold maxSV at hv
    split at hv
    · rename_i k a k' b h1 h2
      cases hv
      have hx := hr x
      have hy := hr y
      rw [h1] at hx
      rw [h2] at hy
      generalize hxv : σ x = xv at hx
      generalize hyv : σ y = yv at hy
      cases hx; cases hy
      refine ⟨.int k (if a < b then b else a), ?_, .sc _⟩
      simp [execOp, resolve, invoke, builtin, hxv, hyv, Builtin.max_, Builtin.max2]
    · cases hv
  · cases hv

theorem valOp_new {o : Oper} {σ : Operand → Value} {ρ : Operand → SV} {pre : Prop} {k : Blk} {mk : Nat → SV} (hr : ∀ x, Rep (envOf (hid M h) w) (σ x) (ρ x))
    (hv : valOp P o.op ρ h = .new pre k mk) (hp : pre) : ∃ x, execOp σ o = asNext x ∧ NewOK P M h w x k mk := by
  obtain ⟨dst, op, type, pos, after, guard⟩ := o
  simp only at hv
  unfold valOp at hv
  split at hv
  all_goals try (cases hv; done)
  · unfold pickSV at hv; split at hv <;> cases hv
  · unfold binSV at hv
    split at hv
    · unfold binII at hv; split at hv <;> cases hv
    · unfold binSS at hv; split at hv <;> cases hv
    · unfold binBB at hv; split at hv <;> cases hv
    · cases hv
  · unfold unSV at hv; split at hv <;> cases hv
  · unfold loadSV at hv
    split at hv
    · cases hv
    · cases hv
    · split at hv <;> cases hv
    · split at hv <;> cases hv
    · cases hv
  · unfold indexAddrSV at hv
    split at hv
    · split at hv
      · split at hv <;> cases hv
      · split at hv <;> cases hv
      · split at hv <;> cases hv
      · split at hv <;> cases hv
      · cases hv
    · cases hv
  · unfold indexSV at hv; split at hv <;> cases hv
  · unfold fieldAddrSV at hv; split at hv <;> cases hv
  · unfold fieldSV at hv; split at hv <;> cases hv
  · unfold tupSV at hv; split at hv <;> cases hv
  · unfold nilSV at hv; split at hv <;> cases hv
  · rename_i t x lo hi mx
    unfold sliceSV at hv
    split at hv
    · split at hv
      · cases hv
      · split at hv
        · split at hv <;> cases hv
        · split at hv <;> cases hv
        · cases hv
    · split at hv
      · split at hv <;> cases hv
      · split at hv <;> cases hv
      · split at hv <;> cases hv
      · split at hv <;> cases hv
      · cases hv
  · rename_i s d x
    by_cases hs : (P.underlying s).isSome = true
    · rw [hs] at hv
      simp only [cond_true] at hv
      unfold convSV at hv
      split at hv
      · split at hv <;> cases hv
      · cases hv
      · cases hv
    · simp only [Bool.not_eq_true] at hs
      rw [hs] at hv
      cases hv
  · rename_i e x
    unfold boxSV at hv
    split at hv
    · rename_i cs hc
      cases hv
      exact ⟨_, rfl, box_sound (hr x) hc⟩
    · cases hv
  · rename_i e
    unfold allocSV at hv
    split at hv
    · rename_i z hz
      cases hv
      exact ⟨_, rfl, alloc_sound hz⟩
    · cases hv
  · rename_i t ps
    unfold buildSV at hv
    split at hv
    · cases hv
    · split at hv
      · split at hv <;> cases hv
      · split at hv
        · split at hv <;> cases hv
        · cases hv
  · rename_i t n ps
    exact ⟨_, rfl, buildSlice_sound (pairs_map ps ρ) (pairs_rep hr ps) hv hp⟩
  · rename_i t l c
    exact ⟨_, rfl, make_sound (hr l) (hr c) hv hp⟩
  · unfold lenSV at hv
    split at hv
    · split at hv <;> cases hv
    · split at hv <;> cases hv
    · split at hv <;> cases hv
    · cases hv
    · split at hv <;> cases hv
  · unfold capSV at hv; split at hv <;> cases hv
  · unfold minSV at hv; split at hv <;> cases hv
  · unfold maxSV at hv; split at hv <;> cases hv

end
end Go.Ab
