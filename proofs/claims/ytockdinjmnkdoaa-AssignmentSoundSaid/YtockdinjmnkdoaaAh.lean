/- The yield of every operation that only computes, or makes a block; its soundness. -/
import Derived.Test.YtockdinjmnkdoaaAg
namespace Go.Ab
open Go.RowKit

def buildSliceSV (L : Option (TypeId × Nat × Nat)) (Z : Option (List Value)) (len : Nat) (ps : List (Nat × SV)) : VRes :=
  match L with
  | none => .bad
  | some (_, s, _) => match Z with
    | none => .bad
    | some z => match fillSV (fun i => some (i * s, s)) (zfill z len) ps with
      | some r => .new (z.length = s ∧ len * s ≤ 16777216 ∧ 0 < s) (.svs r) (fun b => .os b 0 len s)
      | none => .bad

def elemZ (P : Program) (t : TypeId) : Option (List Value) := match slk P t with | some (e, _, _) => zk P e | none => none

def boxSV (x : SV) : VRes := match svCells x with
  | some cs => .new True (.svs cs) (fun b => .op b 0)
  | none => .bad
def allocSV (Z : Option (List Value)) : VRes := match Z with
  | some z => .new True (.svs (z.map .sc)) (fun b => .op b 0)
  | none => .bad
def pickSV (c a b : SV) : VRes := match c with
  | .sc (.bool t) => .ok True (bif t then a else b)
  | _ => .bad
def tupSV (x : SV) (i : Nat) : VRes := match x with
  | .tup cs => .ok (i < cs.length) (cs.getD i .any)
  | _ => .bad
def capSV (L : Option (TypeId × Nat × Nat)) (x : SV) : VRes := match L, x with
  | some _, .sc (.slice none _ c) => .ok True (.sc (.int .i64 c))
  | _, _ => .bad
def minSV (x y : SV) : VRes := match x, y with
  | .sc (.int k a), .sc (.int _ b) => .ok True (.sc (.int k (if b < a then b else a)))
  | _, _ => .bad
def maxSV (x y : SV) : VRes := match x, y with
  | .sc (.int k a), .sc (.int _ b) => .ok True (.sc (.int k (if a < b then b else a)))
  | _, _ => .bad

/-- The yield of an operation. -/
def valOp (P : Program) (op : Op) (ρ : Operand → SV) (h : Heap) : VRes :=
  match op with
  | .move x => .ok True (ρ x)
  | .assign x => .ok True (ρ x)
  | .pick c a b => pickSV (ρ c) (ρ a) (ρ b)
  | .binOp op t x y _ => binSV P op t (ρ x) (ρ y)
  | .unOp op _ x => unSV op (ρ x)
  | .load t x => loadSV (tk P t) (ρ x) h
  | .indexAddr t x i => indexAddrSV (slk P t) (ark P t) (ρ x) (ρ i)
  | .index t x i => indexSV (isStr P t) (ρ x) (ρ i)
  | .fieldAddr s x f => fieldAddrSV (fdk P s f) (ρ x)
  | .field s x f => fieldSV (fdk P s f) (ρ x)
  | .extract x i => tupSV (ρ x) i
  | .nilCheck x => nilSV (ρ x)
  | .slice t x lo hi mx => sliceSV (isStr P t) (slk P t) (ρ x) (lo.map ρ) (hi.map ρ) (mx.map ρ)
  | .convert s d x => bif (P.underlying s).isSome then convSV (ik P d) (isStr P d) (ρ x) else .bad
  | .box _ x => boxSV (ρ x)
  | .alloc e => allocSV (zk P e)
  | .build t ps => buildSV (flk P t) (ark P t) (zk P t) (ps.toList.map fun (i, x) => (i, ρ x))
  | .buildSlice t n ps => buildSliceSV (slk P t) (elemZ P t) n (ps.toList.map fun (i, x) => (i, ρ x))
  | .makeSlice t l c => makeSV (slk P t) (elemZ P t) (ρ l) (ρ c)
  | .makeFunc fn a c => .ok True (.fn fn (a.toList.map ρ) (c.toList.map ρ))
  | .call { callee := .builtin .len, args := ⟨[x]⟩, argTypes := ⟨[t]⟩ } => lenSV (isStr P t) (slk P t) (ark P t) (ρ x)
  | .call { callee := .builtin .cap, args := ⟨[x]⟩, argTypes := ⟨[t]⟩ } => capSV (slk P t) (ρ x)
  | .call { callee := .builtin .min, args := ⟨[x, y]⟩, argTypes := _ } => minSV (ρ x) (ρ y)
  | .call { callee := .builtin .max, args := ⟨[x, y]⟩, argTypes := _ } => maxSV (ρ x) (ρ y)
  | _ => .bad

section
variable {P : Program} {M : Nat → Prop} {h : Heap} {w : World}

theorem fillLen {place : Nat → Option (Nat × Nat)} : ∀ (ps : List (Nat × SV)) (l r : List SV), fillSV place l ps = some r → r.length = l.length
  | [], l, r, h => by cases h; rfl
  | (i, v) :: ps, l, r, h => by
    simp only [fillSV] at h
    split at h
    · rename_i off n cs _ _
      by_cases hb : cs.length = n ∧ off + n ≤ l.length
      · rw [if_pos hb] at h
        rw [fillLen ps _ _ h, length_setAll]
      · rw [if_neg hb] at h
        cases h
    · cases h

theorem buildSlice_sound {t : TypeId} {n : Nat} {ps : List (Nat × SV)} {qs : Array (Nat × Value)} {pre : Prop} {k : Blk} {mk : Nat → SV} (hm : qs.toList.map (·.1) = ps.map (·.1))
    (hr : ∀ i, i < ps.length → Rep (envOf (hid M h) w) (qs.toList.getD i (0, undef)).2 (ps.getD i (0, .any)).2)
    (hv : buildSliceSV (slk P t) (elemZ P t) n ps = .new pre k mk) (hp : pre) : NewOK P M h w (Instr.buildSlice t n qs) k mk := by
  unfold buildSliceSV elemZ at hv
  cases hL : slk P t with
  | none => simp [hL] at hv
  | some x =>
    obtain ⟨e, s, bytes⟩ := x
    simp only [hL] at hv
    cases hZ : zk P e with
    | none => simp [hZ] at hv
    | some z =>
      simp only [hZ] at hv
      split at hv
      · rename_i r hf
        cases hv
        obtain ⟨h3, h4, h5⟩ := hp
        obtain ⟨i, hu, hin, rfl, rfl⟩ := slk_spec hL
        obtain ⟨i', zv, hi', hzv, rfl⟩ := zk_spec hZ
        rw [hin] at hi'; cases hi'
        have hsz : zv.cells.size = i.size := by simpa using h3
        have e24 : ¬ (n * i.size > 2 ^ 24) := by omega
        have hcell : ∀ j, j < (zfill zv.cells.toList n).length → Rep (envOf (hid M h) w) (((Array.range (n * zv.cells.size)).map (zv.cells[· % zv.cells.size]!)).getD j undef) ((zfill zv.cells.toList n).getD j .any) := fun j hj => by
          have hj' : j < n * zv.cells.size := by rw [length_zfill] at hj; simpa using hj
          rw [mkCells _ _ _ hj', getD_zfill _ _ _ (by simpa using hj')]
          rw [show zv.cells.toList.length = zv.cells.size by simp]
          exact .sc _
        obtain ⟨c', hc', hs', hr'⟩ := fill_sound ps qs.toList _ _ r hm hr (by rw [length_zfill]; simp) hcell hf
        refine ⟨⟨c', e, .slice (some ⟨w.heap.size, 0, none⟩) n n, ?_, by simp only [Blk.len]; omega, hr', ?_⟩⟩
        · by_cases h0 : n * i.size = 0
          · have hn : n = 0 := by rcases Nat.mul_eq_zero.1 h0 with h | h <;> omega
            subst hn
            simp only [Nat.zero_mul, Array.range_zero'] at hc'
            rw [Nat.zero_mul] at e24
            simp only [Array.map_empty] at hc'
            simp only [Instr.buildSlice, Sem.run_bind, run_underlying hu, Result.andThen_ok, run_sizeOf_info hin, Sem.run_pure, Nat.zero_mul, if_neg e24, if_true, Array.range_zero', Array.map_empty]
            rw [hc']
            rfl
          · simp only [Instr.buildSlice, Sem.run_bind, run_underlying hu, Result.andThen_ok, run_sizeOf_info hin, if_neg e24, Sem.run_pure, if_neg h0, run_zeroValue hin hzv]
            rw [← hsz] at *
            rw [hc']
            rfl
        · have hlen : r.length = n * i.size := by
            have := fillLen _ _ _ hf
            rw [this, length_zfill]; simp [hsz]
          exact .os _ 0 _ _ _ c'.size (Nat.le_refl _) ⟨_, _, _, heap_alc_new, rfl⟩ (by rw [hs', hlen]; simp)
      · cases hv
end
end Go.Ab
