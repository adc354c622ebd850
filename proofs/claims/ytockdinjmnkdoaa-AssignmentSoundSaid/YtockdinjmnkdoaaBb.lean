/- Arguments that read as data: what the abstract layer says of them; the frame of a law's proof. -/
import Derived.Test.YtockdinjmnkdoaaAt
import Derived.WalkKit
import Derived.ProofKit
import Derived.OpenShut
import Derived.ShutString
import Derived.ChangeOld
import Derived.Below
import GoSem.ClaimJoined
set_option linter.unusedVariables false
set_option linter.unusedSimpArgs false
namespace Go.Ab
open Go.RowKit Go.ChangeShapes Go.WideShapes Go.ChangeAt

/-- Nothing is hidden. -/
abbrev E0 (w : World) : Env := envOf (fun _ => False) w

/-- What reads as a datum of type t is one of these, so laid out. -/
def Rd (P : Program) (t : TypeId) {α : Type} (sv : α → List SV) (ok : α → Prop) : Prop :=
  ∀ {H : Type} (enc : TypeId × Value → H) (w : World) (base fuel : Nat) (held : Bool) (cs : List Value) (x : DataW H × List MemPlace), DataW.trod enc P w base (fun _ => true) held fuel t cs = some x →
    ∃ a, ok a ∧ (sv a).length = cs.length ∧ ∀ i, i < cs.length → Rep (E0 w) (cs.getD i undef) ((sv a).getD i .any)

section
variable {P : Program} {t e : TypeId} {α β : Type}

theorem Rd.map {sv : α → List SV} {ok : α → Prop} (h : Rd P t sv ok) {sv' : β → List SV} {ok' : β → Prop} (g : α → β) (h1 : ∀ a, ok a → sv' (g a) = sv a) (h2 : ∀ a, ok a → ok' (g a)) : Rd P t sv' ok' := fun enc w base fuel held cs x hx => by
  obtain ⟨a, o, l, r⟩ := h enc w base fuel held cs x hx
  exact ⟨g a, h2 a o, by rw [h1 a o]; exact l, by rw [h1 a o]; exact r⟩

def fits (k : IntKind) (n : Int) : Prop := (Lit.int k n).wf = true

theorem Rd.int {k : IntKind} (ht : P.underlying t = some (.int k)) : Rd P t (fun n : Int => [.sc (.int k n)]) (fits k) := fun enc w base fuel held cs x hx => by
  obtain ⟨n, rfl, _, hw⟩ := DataW.trod_int ht hx
  exact ⟨n, hw, rfl, fun i hi => by obtain rfl : i = 0 := by simpa using hi
                                    exact .sc _⟩
theorem Rd.bool (ht : P.underlying t = some .bool) : Rd P t (fun b : Bool => [.sc (.bool b)]) (fun _ => True) := fun enc w base fuel held cs x hx => by
  obtain ⟨n, rfl, _⟩ := DataW.trod_bool ht hx
  exact ⟨n, trivial, rfl, fun i hi => by obtain rfl : i = 0 := by simpa using hi
                                         exact .sc _⟩
theorem Rd.str (ht : P.underlying t = some .string) : Rd P t (fun s : ByteArray => [.sc (.string s)]) (fun s => s.size ≤ maxLen) := fun enc w base fuel held cs x hx => by
  obtain ⟨s, rfl, _, hw⟩ := DataW.trod_string ht hx
  exact ⟨s, hw, rfl, fun i hi => by obtain rfl : i = 0 := by simpa using hi
                                    exact .sc _⟩

/-- A slice that came in. -/
def flOf [Inhabited α] (c : Nat) (sv : α → List SV) (l : List α) : SV := .fl l.length c (fun i => sv (l.getD i default))

theorem cells?_at {w : World} {base : Nat} {a : Addr} : ∀ {n : Nat} {cs : List Value}, w.cells? base a n = some cs → cs.length = n ∧ ∀ i, i < n → w.cell? (a.add i) = some (cs.getD i undef) := fun {n} {cs} h => by
  unfold World.cells? at h
  split at h
  rotate_left
  · cases h
  have hl := mapM_some_length h
  refine ⟨by simpa using hl, fun i hi => ?_⟩
  have := mapM_some_get h i i (by simp [hi])
  have hlt : i < cs.length := by rw [hl]; simpa using hi
  rw [getD_list _ _ _ hlt]
  rw [List.getElem?_eq_getElem hlt] at this
  exact this

theorem spot_none {w : World} {a : Addr} {n : Nat} {cs : List Value} {base : Nat} (h : w.cells? base a n = some cs) (hn : 0 < n) : a.spot = none := by
  have := (cells?_at h).2 0 hn
  exact World.cell?_spot (by simpa [Addr.add] using this)

theorem Rd.slice [Inhabited α] {sv : α → List SV} {ok : α → Prop} (ht : P.underlying t = some (.slice e)) (c : Nat) (hc : P.cellsOf e = c) (h0 : 0 < c) (h : Rd P e sv ok) :
    Rd P t (fun l : List α => [flOf c sv l]) (fun l => l.length ≤ maxLen ∧ ∀ a ∈ l, ok a) := fun enc w base fuel held cs x hx => by
  rcases DataW.trod_slice ht hx with ⟨rfl, _⟩ | ⟨a, len, cap, elems, rest, n, _, rfl, _, hb, hl, hm, hlen, hel, _, _⟩
  · refine ⟨[], ⟨Nat.zero_le _, fun a ha => by cases ha⟩, rfl, fun i hi => ?_⟩
    obtain rfl : i = 0 := by simpa using hi
    exact .fl0 _ _ _ _
  · rw [hc] at hel
    have each : ∀ i, ∃ y : α × List Value, i < len → w.cells? base (a.add (i * c)) c = some y.2 ∧ ok y.1 ∧ (sv y.1).length = y.2.length ∧ ∀ j, j < y.2.length → Rep (E0 w) (y.2.getD j undef) ((sv y.1).getD j .any) := fun i => by
      by_cases hi : i < len
      · have h1 := hel i hi
        rw [List.getElem?_eq_getElem (by omega)] at h1
        obtain ⟨cs', h2, h3⟩ := Option.bind_eq_some_iff.1 h1
        obtain ⟨y, o, l, r⟩ := h enc w base n held cs' _ h3
        exact ⟨(y, cs'), fun _ => ⟨h2, o, l, r⟩⟩
      · exact ⟨(default, []), fun hh => absurd hh hi⟩
    obtain ⟨y, hy⟩ := Classical.axiomOfChoice each
    refine ⟨(List.range len).map fun i => (y i).1, ⟨by simp; omega, fun a ha => ?_⟩, rfl, fun i hi => ?_⟩
    · obtain ⟨i, hi, rfl⟩ := List.mem_map.1 ha
      exact (hy i (List.mem_range.1 hi)).2.1
    · obtain rfl : i = 0 := by simpa using hi
      have hget : ∀ i, i < len → ((List.range len).map fun i => (y i).1).getD i default = (y i).1 := fun i hi => by simp [List.getD_eq_getElem?_getD, hi]
      show Rep (E0 w) (.slice (some a) len cap) (flOf c sv _)
      unfold flOf
      simp only [List.length_map, List.length_range]
      by_cases hz : len = 0
      · subst hz; exact .fl0 _ _ _ _
      · have hsp : a.spot = none := by
          have h1 := spot_none (hy 0 (by omega)).1 h0
          simpa [Addr.add] using h1
        obtain ⟨b, off, sp⟩ := a
        simp only at hsp
        subst hsp
        refine .fl b off len cap c _ (fun i j => (y i).2.getD j undef) hl (fun i hi => ?_) (fun i hi j hj => ⟨fun x => x, ?_⟩) (fun i hi j hj => ?_)
        · rw [hget i hi, (hy i hi).2.2.1]
          exact (cells?_at (hy i hi).1).1
        · have := (cells?_at (hy i hi).1).2 j hj
          rw [Addr.add_lit, Addr.add_lit] at this
          exact this
        · rw [hget i hi]
          exact (hy i hi).2.2.2 j (by rw [(cells?_at (hy i hi).1).1]; exact hj)

/-- Fields, one behind the other. -/
def total (P : Program) (fs : List Field) : Nat := (fs.map fun f => P.cellsOf f.type).sum
def RdF (P : Program) (fs : List Field) (off : Nat) {α : Type} (sv : α → List SV) (ok : α → Prop) : Prop :=
  ∀ {H : Type} (enc : TypeId × Value → H) (w : World) (base fuel : Nat) (held : Bool) (cs : List Value), (∀ f ∈ fs, ∃ x, DataW.trod enc P w base (fun _ => true) held fuel f.type ((cs.drop f.offset).take (P.cellsOf f.type)) = some x) → off + total P fs ≤ cs.length →
    ∃ a, ok a ∧ (sv a).length = total P fs ∧ ∀ i, i < (sv a).length → Rep (E0 w) (cs.getD (off + i) undef) ((sv a).getD i .any)

theorem RdF.nil (off : Nat) : RdF P [] off (fun _ : Unit => []) (fun _ => True) := fun enc w base fuel held cs _ _ => ⟨(), trivial, rfl, fun i hi => absurd hi (by simp)⟩

theorem RdF.cons {f : Field} {fs : List Field} {off : Nat} {sv : α → List SV} {ok : α → Prop} {sv' : β → List SV} {ok' : β → Prop} (ho : f.offset = off) (n : Nat) (hn : P.cellsOf f.type = n) (h : Rd P f.type sv ok) (hs : RdF P fs (off + n) sv' ok') :
    RdF P (f :: fs) off (fun x : α × β => sv x.1 ++ sv' x.2) (fun x => ok x.1 ∧ ok' x.2) := fun enc w base fuel held cs hx hle => by
  subst hn
  obtain ⟨x, hx0⟩ := hx f List.mem_cons_self
  rw [ho] at hx0
  obtain ⟨a, o, l, r⟩ := h enc w base fuel held _ x hx0
  have htot : total P (f :: fs) = P.cellsOf f.type + total P fs := by simp [total]
  rw [htot] at hle
  obtain ⟨b, o', l', r'⟩ := hs enc w base fuel held cs (fun g hg => hx g (List.mem_cons_of_mem _ hg)) (by omega)
  have l1 : (sv a).length = P.cellsOf f.type := by rw [l]; simp; omega
  refine ⟨(a, b), ⟨o, o'⟩, by simp [l1, l', htot], fun i hi => ?_⟩
  simp only [List.length_append] at hi
  by_cases hia : i < (sv a).length
  · have h1 := r i (by rw [← l]; exact hia)
    rw [List.getD_eq_getElem?_getD, List.getElem?_take_of_lt (by omega), List.getElem?_drop] at h1
    rw [List.getD_eq_getElem?_getD (l := sv a ++ sv' b), List.getElem?_append_left hia, ← List.getD_eq_getElem?_getD, List.getD_eq_getElem?_getD (l := cs)]
    exact h1
  · have h1 := r' (i - (sv a).length) (by omega)
    rw [List.getD_eq_getElem?_getD (l := sv a ++ sv' b), List.getElem?_append_right (by omega), ← List.getD_eq_getElem?_getD]
    rw [show off + P.cellsOf f.type + (i - (sv a).length) = off + i by omega] at h1
    exact h1

theorem Rd.struct {fs : Array Field} {sv : α → List SV} {ok : α → Prop} (ht : P.underlying t = some (.struct fs)) (hc : P.cellsOf t = total P fs.toList) (h : RdF P fs.toList 0 sv ok) : Rd P t sv ok := fun enc w base fuel held cs x hx => by
  obtain ⟨xs, n, _, _, hl, hxl, hall⟩ := DataW.trod_struct ht hx
  obtain ⟨a, o, l, r⟩ := h enc w base n held cs (fun f hf => by
    obtain ⟨i, hi, rfl⟩ := List.mem_iff_getElem.1 hf
    have hi' : i < fs.size := by simpa using hi
    have := hall i fs[i] (by simp [hi'])
    rw [List.getElem?_eq_getElem (by omega)] at this
    exact ⟨_, this⟩) (by omega)
  exact ⟨a, o, by omega, fun i hi => by have := r i (by omega); rwa [Nat.zero_add] at this⟩

theorem getD_flatMap {sv : α → List SV} {c : Nat} [Inhabited α] : ∀ (l : List α), (∀ a ∈ l, (sv a).length = c) → (l.flatMap sv).length = l.length * c ∧ ∀ i j, i < l.length → j < c → (l.flatMap sv).getD (i * c + j) .any = (sv (l.getD i default)).getD j .any
  | [], _ => ⟨by simp, fun i j hi _ => absurd hi (by simp)⟩
  | x :: l, h => by
    obtain ⟨h1, h2⟩ := getD_flatMap l (fun a ha => h a (List.mem_cons_of_mem _ ha))
    have hx := h x List.mem_cons_self
    refine ⟨by simp only [List.flatMap_cons, List.length_append, h1, hx, List.length_cons, Nat.succ_mul]; omega, fun i j hi hj => ?_⟩
    rw [List.flatMap_cons]
    cases i with
    | zero => rw [Nat.zero_mul, Nat.zero_add, List.getD_eq_getElem?_getD, List.getElem?_append_left (by omega), ← List.getD_eq_getElem?_getD]; rfl
    | succ i =>
      have : (i + 1) * c + j = c + (i * c + j) := by rw [Nat.succ_mul]; omega
      rw [this, List.getD_eq_getElem?_getD, List.getElem?_append_right (by omega), ← List.getD_eq_getElem?_getD, hx, Nat.add_sub_cancel_left, h2 i j (by simpa using hi) hj]
      simp

theorem Rd.array [Inhabited α] {n : Nat} {sv : α → List SV} {ok : α → Prop} (ht : P.underlying t = some (.array n e)) (c : Nat) (hc : P.cellsOf e = c) (hn : P.cellsOf t = n * c) (h0 : 0 < c) (h : Rd P e sv ok) :
    Rd P t (fun l : List α => l.flatMap sv) (fun l => l.length = n ∧ ∀ a ∈ l, ok a) := fun enc w base fuel held cs x hx => by
  obtain ⟨xs, m, _, _, hl, hxl, hall⟩ := DataW.trod_array ht hx
  rw [hc] at hall
  have each : ∀ i, ∃ y : α, i < n → ok y ∧ (sv y).length = c ∧ ∀ j, j < c → Rep (E0 w) (cs.getD (i * c + j) undef) ((sv y).getD j .any) := fun i => by
    by_cases hi : i < n
    · have h1 := hall i hi
      rw [List.getElem?_eq_getElem (by omega)] at h1
      obtain ⟨y, o, l, r⟩ := h enc w base m held _ _ h1
      have hle := Nat.mul_le_mul_right c (Nat.succ_le_of_lt hi)
      rw [Nat.succ_mul] at hle
      have hl1 : ((cs.drop (i * c)).take c).length = c := by simp; omega
      rw [hl1] at l r
      refine ⟨y, fun _ => ⟨o, l, fun j hj => ?_⟩⟩
      have h2 := r j hj
      rw [List.getD_eq_getElem?_getD, List.getElem?_take_of_lt hj, List.getElem?_drop] at h2
      rw [List.getD_eq_getElem?_getD (l := cs)]
      exact h2
    · exact ⟨default, fun hh => absurd hh hi⟩
  obtain ⟨y, hy⟩ := Classical.axiomOfChoice each
  have hmem : ∀ a ∈ (List.range n).map y, ok a ∧ (sv a).length = c := fun a ha => by
    obtain ⟨i, hi, rfl⟩ := List.mem_map.1 ha
    have := hy i (List.mem_range.1 hi)
    exact ⟨this.1, this.2.1⟩
  obtain ⟨f1, f2⟩ := getD_flatMap ((List.range n).map y) (fun a ha => (hmem a ha).2)
  simp only [List.length_map, List.length_range] at f1 f2
  refine ⟨(List.range n).map y, ⟨by simp, fun a ha => (hmem a ha).1⟩, by rw [f1]; omega, fun i hi => ?_⟩
  have hi' : i < n * c := by omega
  have hq : i / c < n := (Nat.div_lt_iff_lt_mul h0).2 hi'
  have hr : i % c < c := Nat.mod_lt _ h0
  have he : i / c * c + i % c = i := by rw [Nat.mul_comm]; exact Nat.div_add_mod i c
  have h3 := f2 (i / c) (i % c) hq hr
  rw [he] at h3
  rw [h3]
  have h4 := (hy (i / c) hq).2.2 (i % c) hr
  rw [he] at h4
  simpa [List.getD_eq_getElem?_getD, hq] using h4

/-! ### arguments -/
/-- A type whose values are one cell. -/
def oneCell (P : Program) (t : TypeId) : Bool := match P.underlying t with
  | some (.struct _) => false
  | some (.array _ _) => false
  | some _ => true
  | none => false

/-- An argument, as the abstract layer has it. -/
theorem arg_one {H : Type} {enc : TypeId × Value → H} {w : World} {base : Nat} {held : Bool} {v : Value} {d : DataW H} {ps : List MemPlace} {sv : α → List SV} {ok : α → Prop} (hv : v.cells = #[v]) (h : Rd P t sv ok)
    (hd : DataW.Trod enc P w base (fun _ => true) held t v d ps) : ∃ a, ok a ∧ (sv a).length = 1 ∧ Rep (E0 w) v ((sv a).getD 0 .any) := by
  obtain ⟨fuel, hx⟩ := hd
  obtain ⟨a, o, l, r⟩ := h enc w base fuel held _ _ hx
  rw [hv] at l r
  exact ⟨a, o, l, r 0 (by simp)⟩

theorem arg_agg {H : Type} {enc : TypeId × Value → H} {w : World} {base : Nat} {held : Bool} {cs : Array Value} {d : DataW H} {ps : List MemPlace} {sv : α → List SV} {ok : α → Prop} (h : Rd P t sv ok)
    (hd : DataW.Trod enc P w base (fun _ => true) held t (.agg cs) d ps) : ∃ a, ok a ∧ Rep (E0 w) (.agg cs) (.agg (sv a)) := by
  obtain ⟨fuel, hx⟩ := hd
  obtain ⟨a, o, l, r⟩ := h enc w base fuel held _ _ hx
  refine ⟨a, o, .agg _ _ (by rw [l]; simp [Value.cells]) (fun j hj => ?_)⟩
  have := r j (by rw [← l]; exact hj)
  rw [getD_toList]
  exact this

end
end Go.Ab
