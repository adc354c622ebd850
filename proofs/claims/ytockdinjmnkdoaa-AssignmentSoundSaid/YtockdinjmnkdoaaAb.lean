/- The abstract layer: values as an activation sees them, frozen or owned, and how a world bears them out. -/
import Derived.Tactics
import Derived.Still
import Derived.Below
namespace Go.Ab
open Go.RowKit

/-- What is known of a Go value. -/
inductive SV where
  | any
  | sc (v : Value)
  | fl (n sz : Nat) (f : Nat → List SV)
  | fp (cs : List SV)
  | agg (cs : List SV)
  | tup (cs : List SV)
  | os (b off len sz : Nat)
  | op (b off : Nat)
  | fn (g : Fn) (first captured : List SV)

instance : Inhabited SV := ⟨.any⟩

/-- What can be seen of a world: cells, and the sizes of blocks. -/
structure Env where
  see : Addr → Value → Prop
  size : Nat → Nat → Prop

structure Env.le (E E' : Env) : Prop where
  see : ∀ a v, E.see a v → E'.see a v
  size : ∀ b m, E.size b m → E'.size b m

theorem Env.le.refl (E : Env) : E.le E := ⟨fun _ _ h => h, fun _ _ h => h⟩
theorem Env.le.trans {E E' E'' : Env} (h : E.le E') (h' : E'.le E'') : E.le E'' :=
  ⟨fun a v x => h'.see a v (h.see a v x), fun b m x => h'.size b m (h.size b m x)⟩

/-- A value is what is said of it. -/
inductive Rep (E : Env) : Value → SV → Prop where
  | any (v : Value) : Rep E v .any
  | sc (v : Value) : Rep E v (.sc v)
  | fl0 (a : Option Addr) (cap sz : Nat) (f : Nat → List SV) : Rep E (.slice a 0 cap) (.fl 0 sz f)
  | fl (b off n cap sz : Nat) (f : Nat → List SV) (val : Nat → Nat → Value) (hc : n ≤ cap) (hl : ∀ i, i < n → (f i).length = sz)
      (hs : ∀ i, i < n → ∀ j, j < sz → E.see ⟨b, off + i * sz + j, none⟩ (val i j))
      (hr : ∀ i, i < n → ∀ j, j < sz → Rep E (val i j) ((f i).getD j .any)) : Rep E (.slice (some ⟨b, off, none⟩) n cap) (.fl n sz f)
  | fp (b off : Nat) (cs : List SV) (val : Nat → Value) (hs : ∀ j, j < cs.length → E.see ⟨b, off + j, none⟩ (val j))
      (hr : ∀ j, j < cs.length → Rep E (val j) (cs.getD j .any)) : Rep E (.pointer (some ⟨b, off, none⟩)) (.fp cs)
  | agg (c : Array Value) (cs : List SV) (hl : c.size = cs.length) (hr : ∀ j, j < cs.length → Rep E (c.getD j undef) (cs.getD j .any)) : Rep E (.agg c) (.agg cs)
  | tup (c : Array Value) (cs : List SV) (hl : c.size = cs.length) (hr : ∀ j, j < cs.length → Rep E (c.getD j undef) (cs.getD j .any)) : Rep E (.tuple c) (.tup cs)
  | os (b off len cap sz m : Nat) (hc : len ≤ cap) (hm : E.size b m) (hb : off + cap * sz ≤ m) : Rep E (.slice (some ⟨b, off, none⟩) len cap) (.os b off len sz)
  | op (b off : Nat) : Rep E (.pointer (some ⟨b, off, none⟩)) (.op b off)
  | fn (g : Fn) (c1 c2 : Array Value) (s1 s2 : List SV) (l1 : c1.size = s1.length) (l2 : c2.size = s2.length)
      (h1 : ∀ j, j < s1.length → Rep E (c1.getD j undef) (s1.getD j .any)) (h2 : ∀ j, j < s2.length → Rep E (c2.getD j undef) (s2.getD j .any)) : Rep E (.func g c1 c2) (.fn g s1 s2)

theorem Rep.mono {E E' : Env} (hE : E.le E') {v : Value} {s : SV} (h : Rep E v s) : Rep E' v s := by
  induction h with
  | any v => exact .any v
  | sc v => exact .sc v
  | fl0 a cap sz f => exact .fl0 a cap sz f
  | fl b off n cap sz f val hc hl hs hr ih => exact .fl b off n cap sz f val hc hl (fun i hi j hj => hE.see _ _ (hs i hi j hj)) ih
  | fp b off cs val hs hr ih => exact .fp b off cs val (fun j hj => hE.see _ _ (hs j hj)) ih
  | agg c cs hl hr ih => exact .agg c cs hl ih
  | tup c cs hl hr ih => exact .tup c cs hl ih
  | os b off len cap sz m hc hm hb => exact .os b off len cap sz m hc (hE.size _ _ hm) hb
  | op b off => exact .op b off
  | fn g c1 c2 s1 s2 l1 l2 h1 h2 i1 i2 => exact .fn g c1 c2 s1 s2 l1 l2 i1 i2

/-- The content of an owned block. -/
inductive Blk where
  | svs (cs : List SV)
  | ints (k : IntKind) (l : List Int)
  | bools (l : List Bool)

def Blk.cells : Blk → List SV
  | .svs cs => cs
  | .ints k l => l.map fun n => .sc (.int k n)
  | .bools l => l.map fun b => .sc (.bool b)

def Blk.len : Blk → Nat
  | .svs cs => cs.length
  | .ints _ l => l.length
  | .bools l => l.length

def Blk.get : Blk → Nat → SV
  | .svs cs, i => cs.getD i .any
  | .ints k l, i => .sc (.int k (l.getD i 0))
  | .bools l, i => .sc (.bool (l.getD i false))

def Blk.set : Blk → Nat → SV → Blk
  | .svs cs, i, v => .svs (cs.set i v)
  | .ints k l, i, .sc (.int k' n) => if k' = k then .ints k (l.set i n) else .svs ((Blk.cells (.ints k l)).set i (.sc (.int k' n)))
  | .bools l, i, .sc (.bool b) => .bools (l.set i b)
  | b, i, v => .svs (b.cells.set i v)

theorem Blk.length_cells (b : Blk) : b.cells.length = b.len := by cases b <;> simp [Blk.cells, Blk.len]

theorem Blk.get_cells (b : Blk) (i : Nat) (h : i < b.len) : b.cells.getD i .any = b.get i := by
  cases b with
  | svs cs => rfl
  | ints k l => simp only [Blk.len] at h; simp [Blk.cells, Blk.get, List.getD_eq_getElem?_getD, List.getElem?_map, List.getElem?_eq_getElem h]
  | bools l => simp only [Blk.len] at h; simp [Blk.cells, Blk.get, List.getD_eq_getElem?_getD, List.getElem?_map, List.getElem?_eq_getElem h]

theorem Blk.cells_set (b : Blk) (i : Nat) (v : SV) : (b.set i v).cells = b.cells.set i v := by
  cases b with
  | svs cs => rfl
  | ints k l =>
    cases v with
    | sc x =>
      cases x with
      | int k' n =>
        by_cases hk : k' = k
        · subst hk; simp [Blk.set, Blk.cells, List.map_set]
        · simp [Blk.set, hk, Blk.cells]
      | _ => rfl
    | _ => rfl
  | bools l =>
    cases v with
    | sc x =>
      cases x with
      | bool c => simp [Blk.set, Blk.cells, List.map_set]
      | _ => rfl
    | _ => rfl

theorem Blk.len_set (b : Blk) (i : Nat) (v : SV) : (b.set i v).len = b.len := by
  rw [← Blk.length_cells, Blk.cells_set, List.length_set, Blk.length_cells]

abbrev Heap := List (Nat × Blk)

def Heap.find (h : Heap) (b : Nat) : Option Blk := match h with
  | [] => none
  | (c, k) :: r => if c = b then some k else Heap.find r b

def Heap.upd (h : Heap) (b : Nat) (k : Blk) : Heap := match h with
  | [] => []
  | (c, k') :: r => if c = b then (c, k) :: r else (c, k') :: Heap.upd r b k

def Heap.del (h : Heap) (b : Nat) : Heap := match h with
  | [] => []
  | (c, k') :: r => if c = b then r else (c, k') :: Heap.del r b

def Heap.has (h : Heap) (b : Nat) : Prop := ∃ k, (b, k) ∈ h

/-- An activation's state. -/
structure St where
  t : List (Nat × SV)
  h : Heap

def look (t : List (Nat × SV)) (i : Nat) : SV := match t with
  | [] => .any
  | (j, v) :: r => bif Nat.beq j i then v else look r i

def St.put (S : St) (d : Option Tmp) (v : SV) : St := match d with
  | some d => ⟨(d, v) :: S.t, S.h⟩
  | none => S

def St.ev (S : St) : Operand → SV
  | .tmp i => look S.t i
  | .const v => .sc v
  | .global _ => .any
  | .func f => .fn (.func f) [] []

def HasSize (w : World) (b m : Nat) : Prop := ∃ c e fr, w.heap[b]? = some (.cells c e fr) ∧ c.size = m

def envOf (X : Nat → Prop) (w : World) : Env := { see := fun a v => ¬ X a.block ∧ w.cell? a = some v, size := HasSize w }

def hid (M : Nat → Prop) (h : Heap) : Nat → Prop := fun b => M b ∨ h.has b

/-- The owned blocks are there, nobody else sees them, and they hold what is said of them. -/
structure Owns (M : Nat → Prop) (h : Heap) (w : World) : Prop where
  nodup : (h.map (·.1)).Nodup
  notM : ∀ b, h.has b → ¬ M b
  lt : ∀ b, M b → b < w.heap.size
  ok : ∀ b k, (b, k) ∈ h → ∃ c e, w.heap[b]? = some (.cells c e (0, 0)) ∧ k.len ≤ c.size ∧ ∀ i, i < k.len → Rep (envOf (hid M h) w) (c.getD i undef) (k.get i)

/-- What a stretch of a run leaves of the world: blocks outside D stay, all sizes stay. -/
structure Frm (D : Nat → Prop) (w w' : World) : Prop where
  size : w.heap.size ≤ w'.heap.size
  keep : ∀ b, b < w.heap.size → ¬ D b → w'.heap[b]? = w.heap[b]?
  sizes : ∀ b m, HasSize w b m → HasSize w' b m
  os : w'.os = w.os
  tape : w'.tape = w.tape
  output : w'.output = w.output

theorem Frm.refl (D : Nat → Prop) (w : World) : Frm D w w := ⟨Nat.le_refl _, fun _ _ _ => rfl, fun _ _ h => h, rfl, rfl, rfl⟩

theorem Frm.trans {D D' : Nat → Prop} {w w1 w2 : World} (h : Frm D w w1) (h' : Frm D' w1 w2) (hD : ∀ b, b < w.heap.size → D' b → D b) : Frm D w w2 where
  size := Nat.le_trans h.size h'.size
  keep := fun b hb hd => (h'.keep b (Nat.lt_of_lt_of_le hb h.size) (fun x => hd (hD b hb x))).trans (h.keep b hb hd)
  sizes := fun b m x => h'.sizes b m (h.sizes b m x)
  os := h'.os.trans h.os
  tape := h'.tape.trans h.tape
  output := h'.output.trans h.output

theorem Frm.below {D : Nat → Prop} {w w' : World} (h : Frm D w w') (hD : ∀ b, b < w.heap.size → ¬ D b) : Below w.heap.size w w' :=
  ⟨h.os, h.tape, h.output, h.size, fun k hk => h.keep k hk (hD k hk)⟩

theorem cell_of_block {w w' : World} {a : Addr} (h : w'.heap[a.block]? = w.heap[a.block]?) : w'.cell? a = w.cell? a := by
  simp [World.cell?, h]

theorem lt_of_cell {w : World} {a : Addr} {v : Value} (h : w.cell? a = some v) : a.block < w.heap.size := by
  unfold World.cell? at h
  rcases Nat.lt_or_ge a.block w.heap.size with h' | h'
  · exact h'
  · rw [Array.getElem?_eq_none h'] at h; cases h

/-- What was seen is seen: the blocks that turn were hidden before, and what is hidden now was so or is new. -/
theorem env_le {X X' D : Nat → Prop} {w w' : World} (f : Frm D w w') (hD : ∀ b, D b → b < w.heap.size → X b) (hX : ∀ b, b < w.heap.size → X' b → X b) :
    (envOf X w).le (envOf X' w') where
  see := fun a v ⟨h1, h2⟩ => by
    have hlt := lt_of_cell h2
    refine ⟨fun x => h1 (hX _ hlt x), ?_⟩
    rw [cell_of_block (f.keep _ hlt (fun d => h1 (hD _ d hlt)))]
    exact h2
  size := fun b m h => f.sizes b m h

theorem look_cons (j : Nat) (v : SV) (r : List (Nat × SV)) (i : Nat) : look ((j, v) :: r) i = bif Nat.beq j i then v else look r i := rfl

/-- The activation's frame and the world are as the state says; 'w0' the world of its beginning, 'D' the blocks that it was handed to own. -/
structure Rel (M : Nat → Prop) (w0 : World) (D : Nat → Prop) (N : Nat) (S : St) (a : Act) (w : World) : Prop where
  defers : a.defers = []
  n : a.tmps.size = N
  t : ∀ i, Rep (envOf (hid M S.h) w) (a.tmps.getD i undef) (look S.t i)
  own : Owns M S.h w
  frm : Frm D w0 w
  new : ∀ b, S.h.has b → b < w0.heap.size → D b

theorem Rel.ev {M : Nat → Prop} {w0 : World} {D : Nat → Prop} {N : Nat} {S : St} {a : Act} {w : World} (h : Rel M w0 D N S a w) (x : Operand) :
    Rep (envOf (hid M S.h) w) (a.eval x) (S.ev x) := by
  cases x with
  | tmp i => exact h.t i
  | const v => exact .sc v
  | global g => exact .any _
  | func f => exact .fn _ #[] #[] [] [] rfl rfl (fun j hj => absurd hj (by simp)) (fun j hj => absurd hj (by simp))

/-- One temporary more is known; owned blocks and world may have moved on. -/
theorem Rel.put {M : Nat → Prop} {w0 : World} {D : Nat → Prop} {N : Nat} {S : St} {a : Act} {w : World} (h : Rel M w0 D N S a w)
    {d : Option Tmp} (hd : ∀ i, d = some i → i < N) {v : Value} {s : SV} (hv : Rep (envOf (hid M S.h) w) v s) : Rel M w0 D N (S.put d s) (a.put d v) w := by
  cases d with
  | none => exact h
  | some d =>
    refine ⟨h.defers, by simpa [Act.put] using h.n, fun i => ?_, h.own, h.frm, h.new⟩
    have hlt : d < a.tmps.size := by rw [h.n]; exact hd d rfl
    show Rep _ ((a.tmps.setIfInBounds d v).getD i undef) (look ((d, s) :: S.t) i)
    rw [look_cons]
    by_cases hi : d = i
    · subst hi
      simp [hlt]
      exact hv
    · have hb : Nat.beq d i = false := by rw [← Bool.not_eq_true, Nat.beq_eq]; exact hi
      rw [hb]
      simp only [cond_false]
      have := h.t i
      simpa [St.put, Array.getElem?_setIfInBounds_ne hi] using this

/-- The world moves on, new blocks are owned, none is given up. -/
theorem Rel.move {M : Nat → Prop} {w0 : World} {D : Nat → Prop} {N : Nat} {S : St} {a : Act} {w w' : World} {h' : Heap} (h : Rel M w0 D N S a w)
    {D' : Nat → Prop} (f : Frm D' w w') (hD : ∀ b, D' b → b < w.heap.size → S.h.has b) (own : Owns M h' w')
    (hh : ∀ b, b < w.heap.size → h'.has b → S.h.has b) : Rel M w0 D N ⟨S.t, h'⟩ a w' where
  defers := h.defers
  n := h.n
  t := fun i => (h.t i).mono (env_le f (fun b x y => .inr (hD b x y)) (fun b hb x => x.imp id (hh b hb)))
  own := own
  frm := h.frm.trans f (fun b hb x => h.new b (hD b x (Nat.lt_of_lt_of_le hb h.frm.size)) hb)
  new := fun b hb hlt => h.new b (hh b (Nat.lt_of_lt_of_le hlt h.frm.size) hb) hlt

end Go.Ab
