/- The abstract layer, part Z1. -/
import Derived.Tactics
import Derived.Still
import Derived.Below
import Derived.Laws.StructEq
import Derived.Laws.BytesString
import Derived.MapKept
import Derived.Lib.SliceRun
set_option linter.unusedVariables false
set_option linter.unusedSectionVars false
set_option linter.unusedSimpArgs false
/-! Ab: The abstract layer: values as an activation sees them, frozen or owned, and how a world bears them out. -/
namespace Go.Ab
open Go.RowKit
inductive SV where
  | any
  | sc (v : Value)
  | fl (n sz : Nat) (f : Nat → List SV)
  | fp (cs : List SV)
  | agg (cs : List SV)
  | tup (cs : List SV)
  | os (b off len sz : Nat)
  | op (b off : Nat)
  | nt
  | ot (b len : Nat) (e : TypeId)
  | opT (b : Nat) (e : TypeId) (n : Nat)
  | fn (g : Fn) (first captured : List SV)
  | mp (b : Nat)
instance : Inhabited SV := ⟨.any⟩
abbrev Sz := Nat × Option TypeId
structure Env where
  see : Addr → Value → Prop
  size : Nat → Sz → Prop
structure Env.le (E E' : Env) : Prop where
  see : ∀ a v, E.see a v → E'.see a v
  size : ∀ b m, E.size b m → E'.size b m
theorem Env.le.refl (E : Env) : E.le E := ⟨fun _ _ h => h, fun _ _ h => h⟩
theorem Env.le.trans {E E' E'' : Env} (h : E.le E') (h' : E'.le E'') : E.le E'' :=
  ⟨fun a v x => h'.see a v (h.see a v x), fun b m x => h'.size b m (h.size b m x)⟩
inductive Rep (E : Env) : Value → SV → Prop where
  | any (v : Value) : Rep E v .any
  | sc (v : Value) : Rep E v (.sc v)
  | fl0 (a : Option Addr) (cap sz : Nat) (f : Nat → List SV) : Rep E (.slice a 0 cap) (.fl 0 sz f)
  | fl (b off n cap sz : Nat) (f : Nat → List SV) (val : Nat → Nat → Value) (hc : n ≤ cap) (hl : ∀ i, i < n → (f i).length = sz)
      (hs : ∀ i, i < n → ∀ j, j < sz → E.see ⟨b, off + i * sz + j, none⟩ (val i j))
      (hr : ∀ i, i < n → ∀ j, j < sz → Rep E (val i j) ((f i).getD j .any)) : Rep E (.slice (some ⟨b, off, none⟩) n cap) (.fl n sz f)
  | fp (b off : Nat) (cs : List SV) (val : Nat → Value) (hs : ∀ j, j < cs.length → E.see ⟨b, off + j, none⟩ (val j))
      (hr : ∀ j, j < cs.length → Rep E (val j) (cs.getD j .any)) : Rep E (.pointer (some ⟨b, off, none⟩)) (.fp cs)
  | agg (c : Array Value) (cs : List SV) (hl : c.size = cs.length) (hr : ∀ j, j < cs.length → Rep E (c.getD j undef) (cs.getD j .any)) : Rep E (.agg c) (.agg cs)
  | tup (c : Array Value) (cs : List SV) (hl : c.size = cs.length) (hr : ∀ j, j < cs.length → Rep E (c.getD j undef) (cs.getD j .any)) : Rep E (.tuple c) (.tup cs)
  | os (b off len cap sz m : Nat) (hc : len ≤ cap) (hm : E.size b (m, none)) (hb : off + cap * sz ≤ m) : Rep E (.slice (some ⟨b, off, none⟩) len cap) (.os b off len sz)
  | op (b off : Nat) : Rep E (.pointer (some ⟨b, off, none⟩)) (.op b off)
  | nt : Rep E (.slice none 0 0) .nt
  | ot (b len cap : Nat) (e : TypeId) (hc : len ≤ cap) (hm : E.size b (cap, some e)) : Rep E (.slice (some ⟨b, 0, none⟩) len cap) (.ot b len e)
  | opT (b : Nat) (e : TypeId) (n : Nat) (hm : E.size b (n, some e)) : Rep E (.pointer (some ⟨b, 0, none⟩)) (.opT b e n)
  | fn (g : Fn) (c1 c2 : Array Value) (s1 s2 : List SV) (l1 : c1.size = s1.length) (l2 : c2.size = s2.length)
      (h1 : ∀ j, j < s1.length → Rep E (c1.getD j undef) (s1.getD j .any)) (h2 : ∀ j, j < s2.length → Rep E (c2.getD j undef) (s2.getD j .any)) : Rep E (.func g c1 c2) (.fn g s1 s2)
  | mp (b : Nat) : Rep E (.map (some b)) (.mp b)
theorem Rep.mono {E E' : Env} (hE : E.le E') {v : Value} {s : SV} (h : Rep E v s) : Rep E' v s := by
  induction h with
  | any v => exact .any v
  | sc v => exact .sc v
  | fl0 a cap sz f => exact .fl0 a cap sz f
  | fl b off n cap sz f val hc hl hs hr ih => exact .fl b off n cap sz f val hc hl (fun i hi j hj => hE.see _ _ (hs i hi j hj)) ih
  | fp b off cs val hs hr ih => exact .fp b off cs val (fun j hj => hE.see _ _ (hs j hj)) ih
  | agg c cs hl hr ih => exact .agg c cs hl ih
  | tup c cs hl hr ih => exact .tup c cs hl ih
  | os b off len cap sz m hc hm hb => exact .os b off len cap sz m hc (hE.size _ _ hm) hb
  | op b off => exact .op b off
  | nt => exact .nt
  | ot b len cap e hc hm => exact .ot b len cap e hc (hE.size _ _ hm)
  | opT b e n hm => exact .opT b e n (hE.size _ _ hm)
  | fn g c1 c2 s1 s2 l1 l2 h1 h2 i1 i2 => exact .fn g c1 c2 s1 s2 l1 l2 i1 i2
  | mp b => exact .mp b
class Gl where
  gl : Nat → SV
  sz : Nat → Option Nat
def GlOk [Gl] (E : Env) : Prop := ∀ g, Rep E (.pointer (some ⟨g, 0, none⟩)) (Gl.gl g) ∧ ∀ m, Gl.sz g = some m → E.size g (m, none)
theorem GlOk.mono [Gl] {E E' : Env} (hE : E.le E') (h : GlOk E) : GlOk E' := fun g => ⟨(h g).1.mono hE, fun m hm => hE.size _ _ ((h g).2 m hm)⟩
inductive Blk where
  | svs (cs : List SV)
  | ints (k : IntKind) (l : List Int)
  | bools (l : List Bool)
  | mp (l : List (Value × Value))
def Blk.isM : Blk → Bool
  | .mp _ => true
  | _ => false
def Blk.cells : Blk → List SV
  | .svs cs => cs
  | .ints k l => l.map fun n => .sc (.int k n)
  | .bools l => l.map fun b => .sc (.bool b)
  | .mp _ => []
def Blk.len : Blk → Nat
  | .svs cs => cs.length
  | .ints _ l => l.length
  | .bools l => l.length
  | .mp _ => 0
def Blk.get : Blk → Nat → SV
  | .svs cs, i => cs.getD i .any
  | .ints k l, i => .sc (.int k (l.getD i 0))
  | .bools l, i => .sc (.bool (l.getD i false))
  | .mp _, _ => .any
def Blk.set : Blk → Nat → SV → Blk
  | .svs cs, i, v => .svs (cs.set i v)
  | .ints k l, i, .sc (.int k' n) => if k' = k then .ints k (l.set i n) else .svs ((Blk.cells (.ints k l)).set i (.sc (.int k' n)))
  | .bools l, i, .sc (.bool b) => .bools (l.set i b)
  | b, i, v => .svs (b.cells.set i v)
theorem Blk.isM_lt {b : Blk} {i : Nat} (h : i < b.len) : b.isM = false := by
  cases b with
  | mp l => exact absurd h (Nat.not_lt_zero _)
  | _ => rfl
theorem Blk.length_cells (b : Blk) : b.cells.length = b.len := by cases b <;> simp [Blk.cells, Blk.len]
theorem Blk.get_cells (b : Blk) (i : Nat) (h : i < b.len) : b.cells.getD i .any = b.get i := by
  cases b with
  | svs cs => rfl
  | ints k l => simp only [Blk.len] at h; simp [Blk.cells, Blk.get, List.getD_eq_getElem?_getD, List.getElem?_map, List.getElem?_eq_getElem h]
  | bools l => simp only [Blk.len] at h; simp [Blk.cells, Blk.get, List.getD_eq_getElem?_getD, List.getElem?_map, List.getElem?_eq_getElem h]
  | mp l => exact absurd h (Nat.not_lt_zero _)
theorem Blk.cells_set (b : Blk) (i : Nat) (v : SV) : (b.set i v).cells = b.cells.set i v := by
  cases b with
  | svs cs => rfl
  | ints k l =>
    cases v with
    | sc x =>
      cases x with
      | int k' n =>
        by_cases hk : k' = k
        · subst hk; simp [Blk.set, Blk.cells, List.map_set]
        · simp [Blk.set, hk, Blk.cells]
      | _ => rfl
    | _ => rfl
  | bools l =>
    cases v with
    | sc x =>
      cases x with
      | bool c => simp [Blk.set, Blk.cells, List.map_set]
      | _ => rfl
    | _ => rfl
  | mp l => rfl
theorem Blk.isM_set {b : Blk} (h : b.isM = false) (i : Nat) (v : SV) : (b.set i v).isM = false := by
  cases b with
  | mp l => cases h
  | svs cs => rfl
  | ints k l =>
    cases v with
    | sc x =>
      cases x with
      | int k' n =>
        by_cases hk : k' = k
        · subst hk; simp [Blk.set, Blk.isM]
        · simp [Blk.set, hk, Blk.isM]
      | _ => rfl
    | _ => rfl
  | bools l =>
    cases v with
    | sc x =>
      cases x with
      | bool c => rfl
      | _ => rfl
    | _ => rfl
theorem Blk.len_set (b : Blk) (i : Nat) (v : SV) : (b.set i v).len = b.len := by
  rw [← Blk.length_cells, Blk.cells_set, List.length_set, Blk.length_cells]
abbrev Heap := List (Nat × Blk)
def Heap.find (h : Heap) (b : Nat) : Option Blk := match h with
  | [] => none
  | (c, k) :: r => if c = b then some k else Heap.find r b
def Heap.upd (h : Heap) (b : Nat) (k : Blk) : Heap := match h with
  | [] => []
  | (c, k') :: r => if c = b then (c, k) :: r else (c, k') :: Heap.upd r b k
def Heap.del (h : Heap) (b : Nat) : Heap := match h with
  | [] => []
  | (c, k') :: r => if c = b then r else (c, k') :: Heap.del r b
def Heap.has (h : Heap) (b : Nat) : Prop := ∃ k, (b, k) ∈ h
structure St where
  t : List (Nat × SV)
  h : Heap
def look (t : List (Nat × SV)) (i : Nat) : SV := match t with
  | [] => .any
  | (j, v) :: r => bif Nat.beq j i then v else look r i
def St.put (S : St) (d : Option Tmp) (v : SV) : St := match d with
  | some d => ⟨(d, v) :: S.t, S.h⟩
  | none => S
def St.ev [Gl] (S : St) : Operand → SV
  | .tmp i => look S.t i
  | .const v => .sc v
  | .global g => Gl.gl g
  | .func f => .fn (.func f) [] []
def HasSize (w : World) (b : Nat) (m : Sz) : Prop := ∃ c e fr, w.heap[b]? = some (.cells c e fr) ∧ c.size = m.1 ∧ (m.2 = none ∨ m.2 = some e)
def envOf (X : Nat → Prop) (w : World) : Env := { see := fun a v => ¬ X a.block ∧ w.cell? a = some v, size := HasSize w }
def hid (M : Nat → Prop) (h : Heap) : Nat → Prop := fun b => M b ∨ h.has b
structure Owns [Gl] (M : Nat → Prop) (h : Heap) (w : World) : Prop where
  nodup : (h.map (·.1)).Nodup
  notM : ∀ b, h.has b → ¬ M b
  lt : ∀ b, M b → b < w.heap.size
  ok : ∀ b k, (b, k) ∈ h → k.isM = false → ∃ c e, w.heap[b]? = some (.cells c e (0, 0)) ∧ k.len ≤ c.size ∧ ∀ i, i < k.len → Rep (envOf (hid M h) w) (c.getD i undef) (k.get i)
  mp : ∀ b l, (b, Blk.mp l) ∈ h → ∃ es ck, w.heap[b]? = some (.map es ck) ∧ (es.toList.map fun e => (e.key, e.val)) = l
  gl : GlOk (envOf (hid M h) w)
structure Frm (D : Nat → Prop) (w w' : World) : Prop where
  size : w.heap.size ≤ w'.heap.size
  keep : ∀ b, b < w.heap.size → ¬ D b → w'.heap[b]? = w.heap[b]?
  sizes : ∀ b m, HasSize w b m → HasSize w' b m
  os : w'.os = w.os
  tape : w'.tape = w.tape
  output : w'.output = w.output
  drn : w.drawn ≤ w'.drawn
theorem Frm.refl (D : Nat → Prop) (w : World) : Frm D w w := ⟨Nat.le_refl _, fun _ _ _ => rfl, fun _ _ h => h, rfl, rfl, rfl, Nat.le_refl _⟩
theorem Frm.trans {D D' : Nat → Prop} {w w1 w2 : World} (h : Frm D w w1) (h' : Frm D' w1 w2) (hD : ∀ b, b < w.heap.size → D' b → D b) : Frm D w w2 where
  size := Nat.le_trans h.size h'.size
  keep := fun b hb hd => (h'.keep b (Nat.lt_of_lt_of_le hb h.size) (fun x => hd (hD b hb x))).trans (h.keep b hb hd)
  sizes := fun b m x => h'.sizes b m (h.sizes b m x)
  os := h'.os.trans h.os
  tape := h'.tape.trans h.tape
  output := h'.output.trans h.output
  drn := Nat.le_trans h.drn h'.drn
theorem Frm.below {D : Nat → Prop} {w w' : World} (h : Frm D w w') (hD : ∀ b, b < w.heap.size → ¬ D b) : Below w.heap.size w w' :=
  ⟨h.os, h.tape, h.output, h.size, fun k hk => h.keep k hk (hD k hk)⟩
theorem cell_of_block {w w' : World} {a : Addr} (h : w'.heap[a.block]? = w.heap[a.block]?) : w'.cell? a = w.cell? a := by
  simp [World.cell?, h]
theorem lt_of_cell {w : World} {a : Addr} {v : Value} (h : w.cell? a = some v) : a.block < w.heap.size := by
  unfold World.cell? at h
  rcases Nat.lt_or_ge a.block w.heap.size with h' | h'
  · exact h'
  · rw [Array.getElem?_eq_none h'] at h; cases h
theorem env_le [Gl] {X X' D : Nat → Prop} {w w' : World} (f : Frm D w w') (hD : ∀ b, D b → b < w.heap.size → X b) (hX : ∀ b, b < w.heap.size → X' b → X b) :
    (envOf X w).le (envOf X' w') where
  see := fun a v ⟨h1, h2⟩ => by
    have hlt := lt_of_cell h2
    refine ⟨fun x => h1 (hX _ hlt x), ?_⟩
    rw [cell_of_block (f.keep _ hlt (fun d => h1 (hD _ d hlt)))]
    exact h2
  size := fun b m h => f.sizes b m h
theorem look_cons (j : Nat) (v : SV) (r : List (Nat × SV)) (i : Nat) : look ((j, v) :: r) i = bif Nat.beq j i then v else look r i := rfl
structure Rel [Gl] (M : Nat → Prop) (w0 : World) (D : Nat → Prop) (N : Nat) (S : St) (a : Act) (w : World) : Prop where
  defers : a.defers = []
  n : a.tmps.size = N
  t : ∀ i, Rep (envOf (hid M S.h) w) (a.tmps.getD i undef) (look S.t i)
  own : Owns M S.h w
  frm : Frm D w0 w
  new : ∀ b, S.h.has b → b < w0.heap.size → D b
theorem Rel.ev [Gl] {M : Nat → Prop} {w0 : World} {D : Nat → Prop} {N : Nat} {S : St} {a : Act} {w : World} (h : Rel M w0 D N S a w) (x : Operand) :
    Rep (envOf (hid M S.h) w) (a.eval x) (S.ev x) := by
  cases x with
  | tmp i => exact h.t i
  | const v => exact .sc v
  | global g => exact (h.own.gl g).1
  | func f => exact .fn _ #[] #[] [] [] rfl rfl (fun j hj => absurd hj (by simp)) (fun j hj => absurd hj (by simp))
theorem Rel.put [Gl] {M : Nat → Prop} {w0 : World} {D : Nat → Prop} {N : Nat} {S : St} {a : Act} {w : World} (h : Rel M w0 D N S a w)
    {d : Option Tmp} (hd : ∀ i, d = some i → i < N) {v : Value} {s : SV} (hv : Rep (envOf (hid M S.h) w) v s) : Rel M w0 D N (S.put d s) (a.put d v) w := by
  cases d with
  | none => exact h
  | some d =>
    refine ⟨h.defers, by simpa [Act.put] using h.n, fun i => ?_, h.own, h.frm, h.new⟩
    have hlt : d < a.tmps.size := by rw [h.n]; exact hd d rfl
    show Rep _ ((a.tmps.setIfInBounds d v).getD i undef) (look ((d, s) :: S.t) i)
    rw [look_cons]
    by_cases hi : d = i
    · subst hi
      simp [hlt]
      exact hv
    · have hb : Nat.beq d i = false := by rw [← Bool.not_eq_true, Nat.beq_eq]; exact hi
      rw [hb]
      simp only [cond_false]
      have := h.t i
      simpa [St.put, Array.getElem?_setIfInBounds_ne hi] using this
theorem Rel.move [Gl] {M : Nat → Prop} {w0 : World} {D : Nat → Prop} {N : Nat} {S : St} {a : Act} {w w' : World} {h' : Heap} (h : Rel M w0 D N S a w)
    {D' : Nat → Prop} (f : Frm D' w w') (hD : ∀ b, D' b → b < w.heap.size → S.h.has b) (own : Owns M h' w')
    (hh : ∀ b, b < w.heap.size → h'.has b → S.h.has b) : Rel M w0 D N ⟨S.t, h'⟩ a w' where
  defers := h.defers
  n := h.n
  t := fun i => (h.t i).mono (env_le f (fun b x y => .inr (hD b x y)) (fun b hb x => x.imp id (hh b hb)))
  own := own
  frm := h.frm.trans f (fun b hb x => h.new b (hD b x (Nat.lt_of_lt_of_le hb h.frm.size)) hb)
  new := fun b hb hlt => h.new b (hh b (Nat.lt_of_lt_of_le hlt h.frm.size) hb) hlt
end Go.Ab
/-! Ac: What each operation yields, in the abstract layer, and that the model's operation yields just this. -/
namespace Go.Ab
open Go.RowKit
/-! ### what the tables say of a type -/
def tk (P : Program) (t : TypeId) : Option (Bool × Nat) :=
  match P.underlying t, P.info? t with
  | some (.struct _), some i => some (true, i.size)
  | some (.array _ _), some i => some (true, i.size)
  | some _, some i => some (false, i.size)
  | _, _ => none
def slk (P : Program) (t : TypeId) : Option (TypeId × Nat × Nat) :=
  match P.underlying t with
  | some (.slice e) => match P.info? e with
    | some i => some (e, i.size, i.bytes)
    | none => none
  | _ => none
def ark (P : Program) (t : TypeId) : Option (Nat × Nat) :=
  match P.underlying t with
  | some (.array n e) => match P.info? e with
    | some i => some (n, i.size)
    | none => none
  | _ => none
def arn (P : Program) (t : TypeId) : Option (Nat × Bool × Nat) :=
  match P.underlying t with
  | some (.array n e) => match tk P e with
    | some (g, s) => some (n, g, s)
    | none => none
  | _ => none
def fdk (P : Program) (s : TypeId) (i : Nat) : Option (Nat × Bool × Nat) :=
  match P.underlying s with
  | some (.struct fs) => match fs[i]? with
    | some f => match tk P f.type with
      | some (g, n) => some (f.offset, g, n)
      | none => none
    | none => none
  | _ => none
def ik (P : Program) (t : TypeId) : Option IntKind :=
  match P.underlying t with
  | some (.int k) => some k
  | _ => none
def zk (P : Program) (t : TypeId) : Option (List Value) :=
  match P.info? t with
  | some i => match i.zero with
    | some v => some v.cells.toList
    | none => none
  | none => none
def isStr (P : Program) (t : TypeId) : Bool := match P.underlying t with | some .string => true | _ => false
def isBool (P : Program) (t : TypeId) : Bool := match P.underlying t with | some .bool => true | _ => false
def single : SV → Bool
  | .sc (.agg _) => false
  | .sc (.tuple _) => false
  | .sc _ => true
  | .fl _ _ _ => true
  | .fp _ => true
  | .os _ _ _ _ => true
  | .op _ _ => true
  | .nt => true
  | .ot _ _ _ => true
  | .opT _ _ _ => true
  | .fn _ _ _ => true
  | .mp _ => true
  | _ => false
def svCells : SV → Option (List SV)
  | .agg cs => bif cs.all single then some cs else none
  | v => bif single v then some [v] else none
inductive VRes where
  | bad
  | ok (pre : Prop) (v : SV)
  | new (pre : Prop) (k : Blk) (mk : Nat → SV)
def binII (op : BinOp) (k : IntKind) (a : Int) (k' : IntKind) (b : Int) : VRes :=
  match op with
  | .shl => .ok (0 ≤ b) (.sc (.int k (k.wrap (a * 2 ^ (min b.toNat k.bits)))))
  | .shr => .ok (0 ≤ b) (.sc (.int k (a.fdiv (2 ^ (min b.toNat k.bits)))))
  | .add => .ok (k = k') (.sc (.int k (k.wrap (a + b))))
  | .sub => .ok (k = k') (.sc (.int k (k.wrap (a - b))))
  | .mul => .ok (k = k') (.sc (.int k (k.wrap (a * b))))
  | .quo => .ok (k = k' ∧ b ≠ 0) (.sc (.int k (k.wrap (a.tdiv b))))
  | .rem => .ok (k = k' ∧ b ≠ 0) (.sc (.int k (a.tmod b)))
  | .and => .ok (k = k') (.sc (.int k (bits .and k a b)))
  | .or => .ok (k = k') (.sc (.int k (bits .or k a b)))
  | .xor => .ok (k = k') (.sc (.int k (bits .xor k a b)))
  | .andNot => .ok (k = k') (.sc (.int k (bits .andNot k a b)))
  | .eql => .ok (k = k') (.sc (.bool (decide (a = b))))
  | .neq => .ok (k = k') (.sc (.bool (!decide (a = b))))
  | .lss => .ok (k = k') (.sc (.bool (decide (a < b))))
  | .leq => .ok (k = k') (.sc (.bool (decide (a ≤ b))))
  | .gtr => .ok (k = k') (.sc (.bool (decide (b < a))))
  | .geq => .ok (k = k') (.sc (.bool (decide (b ≤ a))))
def binSS (op : BinOp) (a b : ByteArray) : VRes :=
  match op with
  | .add => .ok (((a.size + b.size : Nat) : Int) ≤ 9223372036854775807) (.sc (.string (a ++ b)))
  | .eql => .ok True (.sc (.bool (a.toList == b.toList)))
  | .neq => .ok True (.sc (.bool (!(a.toList == b.toList))))
  | .lss => .ok True (.sc (.bool (Op.bytesLess a.toList b.toList)))
  | .leq => .ok True (.sc (.bool (Op.bytesLess a.toList b.toList || a.toList == b.toList)))
  | .gtr => .ok True (.sc (.bool (!(Op.bytesLess a.toList b.toList || a.toList == b.toList))))
  | .geq => .ok True (.sc (.bool (!(Op.bytesLess a.toList b.toList))))
  | _ => .bad
def binBB (bt : Bool) (op : BinOp) (a b : Bool) : VRes :=
  match op with
  | .eql => .ok (bt = true) (.sc (.bool (a == b)))
  | .neq => .ok (bt = true) (.sc (.bool (!(a == b))))
  | _ => .bad
inductive CK where | i | b | s
def ckOf (P : Program) (t : TypeId) : Option CK := match P.underlying t with
  | some (.int _) => some .i
  | some .bool => some .b
  | some .string => some .s
  | _ => none
def ckFs (P : Program) : Nat → List Field → Option (List CK)
  | _, [] => some []
  | off, f :: fs => bif f.name != "_" && Nat.beq f.offset off then (match ckOf P f.type, ckFs P (off + 1) fs with | some c, some r => some (c :: r) | _, _ => none) else none
def subk (P : Program) (t : TypeId) : Option (List CK) := match P.underlying t with
  | some (.struct fs) => bif P.stoodInHeld t then none else (match ckFs P 0 fs.toList, tk P t with
    | some q, some (true, n) => bif Nat.beq n q.length then some q else none
    | _, _ => none)
  | _ => none
def ckFn (P : Program) : Nat → List Field → Option (List CK)
  | _, [] => some []
  | off, f :: fs => bif f.name != "_" && Nat.beq f.offset off then (match ckOf P f.type with
    | some c => (match ckFn P (off + 1) fs with | some r => some (c :: r) | none => none)
    | none => (match subk P f.type with
      | some q => (match ckFn P (off + q.length) fs with | some r => some (q ++ r) | none => none)
      | none => none)) else none
def eqk (P : Program) (t : TypeId) : Option (List CK) := match P.underlying t with
  | some (.struct fs) => bif P.stoodInHeld t || P.eqGuardType P.depth t then none else ckFn P 0 fs.toList
  | _ => none
def eq1 (k : CK) (x y : SV) : Option (Prop × Bool) := match k, x, y with
  | .i, .sc (.int k a), .sc (.int k' b) => some (k = k', decide (a = b))
  | .b, .sc (.bool a), .sc (.bool b) => some (True, a == b)
  | .s, .sc (.string a), .sc (.string b) => some (True, a.toList == b.toList)
  | _, _, _ => none
def and2 (x y : Option (Prop × Bool)) : Option (Prop × Bool) := match x, y with
  | some (p, r), some (q, s) => some (p ∧ q, r && s)
  | _, _ => none
def eqC : List CK → List SV → List SV → Option (Prop × Bool)
  | [], [], [] => some (True, true)
  | k :: ks, x :: xs, y :: ys => and2 (eq1 k x y) (eqC ks xs ys)
  | _, _, _ => none
def binAA (K : Option (List CK)) (op : BinOp) (xs ys : List SV) : VRes :=
  match op, K with
  | .eql, some ks => match eqC ks xs ys with
    | some (p, r) => .ok p (.sc (.bool r))
    | none => .bad
  | .neq, some ks => match eqC ks xs ys with
    | some (p, r) => .ok p (.sc (.bool (!r)))
    | none => .bad
  | _, _ => .bad
def isC : Operand → Bool
  | .const _ => true
  | _ => false
def isIf (P : Program) (t : TypeId) : Bool := match P.underlying t with | some (.interface _) => true | _ => false
def binNil (i : Bool) (op : BinOp) (c : Bool) (r : Bool) : VRes := match op with
  | .eql => .ok (i = true ∧ c = true) (.sc (.bool r))
  | .neq => .ok (i = true ∧ c = true) (.sc (.bool (!r)))
  | _ => .bad
def isSl (P : Program) (t : TypeId) : Bool := match P.underlying t with | some (.slice _) => true | _ => false
def binSl (i : Bool) (op : BinOp) (r : Bool) : VRes := match op with
  | .eql => .ok (i = true) (.sc (.bool r))
  | .neq => .ok (i = true) (.sc (.bool (!r)))
  | _ => .bad
def binSV (P : Program) (op : BinOp) (t : TypeId) (c : Bool) (x y : SV) : VRes :=
  match x, y with
  | .sc (.int k a), .sc (.int k' b) => binII op k a k' b
  | .sc (.string a), .sc (.string b) => binSS op a b
  | .sc (.bool a), .sc (.bool b) => binBB (isBool P t) op a b
  | .agg xs, .agg ys => binAA (eqk P t) op xs ys
  | .sc .nilIface, .sc .nilIface => binNil (isIf P t) op c true
  | .sc .nilIface, .sc (.iface _ _) => binNil (isIf P t) op true false
  | .sc (.iface _ _), .sc .nilIface => binNil (isIf P t) op true false
  | .sc (.slice none 0 0), .sc (.slice none 0 0) => binSl (isSl P t) op true
  | .os _ _ _ _, .sc (.slice none 0 0) => binSl (isSl P t) op false
  | _, _ => .bad
def unSV (op : UnOp) (x : SV) : VRes :=
  match op, x with
  | .neg, .sc (.int k n) => .ok True (.sc (.int k (k.wrap (0 - n))))
  | .not, .sc (.bool b) => .ok True (.sc (.bool (!b)))
  | .xor, .sc (.int k n) => .ok True (.sc (.int k (bits .xor k (if k.signed then -1 else k.max) n)))
  | _, _ => .bad
def getN (k : Blk) (off : Nat) (n : Nat) : List SV := match n with
  | 0 => []
  | n + 1 => k.get off :: getN k (off + 1) n
def loadSV (T : Option (Bool × Nat)) (x : SV) (h : Heap) : VRes :=
  match T, x with
  | some (false, _), .fp cs => .ok (0 < cs.length) (cs.getD 0 .any)
  | some (true, n), .fp cs => .ok (cs.length = n) (.agg cs)
  | some (false, _), .op b off => match h.find b with
    | some k => .ok (off < k.len) (k.get off)
    | none => .bad
  | some (true, n), .op b off => match h.find b with
    | some k => .ok (off + n ≤ k.len) (.agg (getN k off n))
    | none => .bad
  | _, _ => .bad
def indexAddrSV (L : Option (TypeId × Nat × Nat)) (A : Option (Nat × Nat)) (x i : SV) : VRes :=
  match i with
  | .sc (.int _ n) => match x with
    | .fl m sz f => match L with
      | some (_, s, _) => .ok (0 ≤ n ∧ n < m ∧ sz = s) (.fp (f n.toNat))
      | none => .bad
    | .os b off len sz => match L with
      | some (_, s, _) => .ok (0 ≤ n ∧ n < len ∧ sz = s) (.op b (off + n.toNat * s))
      | none => .bad
    | .op b off => match A with
      | some (len, s) => .ok (0 ≤ n ∧ n < len) (.op b (off + n.toNat * s))
      | none => .bad
    | .fp cs => match A with
      | some (len, s) => .ok (0 ≤ n ∧ n < len ∧ cs.length = len * s) (.fp ((cs.drop (n.toNat * s)).take s))
      | none => .bad
    | _ => .bad
  | _ => .bad
def indexAr (A : Option (Nat × Bool × Nat)) (cs : List SV) (n : Int) : VRes :=
  match A with
  | some (len, true, s) => .ok (0 ≤ n ∧ n < len ∧ n.toNat * s + s ≤ cs.length) (.agg ((cs.drop (n.toNat * s)).take s))
  | some (len, false, s) => .ok (0 ≤ n ∧ n < len ∧ n.toNat * s < cs.length) (cs.getD (n.toNat * s) .any)
  | none => .bad
def indexSV (st : Bool) (A : Option (Nat × Bool × Nat)) (x i : SV) : VRes :=
  match x, i with
  | .sc (.string s), .sc (.int _ n) => .ok (st = true ∧ 0 ≤ n ∧ n < s.size) (.sc (.int .u8 (s.data.toList.getD n.toNat 0).toNat))
  | .agg cs, .sc (.int _ n) => indexAr A cs n
  | _, _ => .bad
def fieldAddrSV (F : Option (Nat × Bool × Nat)) (x : SV) : VRes :=
  match F, x with
  | some (off, _, n), .fp cs => .ok (n ≠ 0 ∧ off + n ≤ cs.length) (.fp ((cs.drop off).take n))
  | some (off, _, n), .op b o => .ok (n ≠ 0) (.op b (o + off))
  | _, _ => .bad
def fieldSV (F : Option (Nat × Bool × Nat)) (x : SV) : VRes :=
  match F, x with
  | some (off, true, n), .agg cs => .ok (off + n ≤ cs.length) (.agg ((cs.drop off).take n))
  | some (off, false, _), .agg cs => .ok (off < cs.length) (cs.getD off .any)
  | _, _ => .bad
def lenSV (st : Bool) (L : Option (TypeId × Nat × Nat)) (A : Option (Nat × Nat)) (x : SV) : VRes :=
  match x with
  | .fl n _ _ => match L with
    | some _ => .ok True (.sc (.int .i64 n))
    | none => .bad
  | .os _ _ n _ => match L with
    | some _ => .ok True (.sc (.int .i64 n))
    | none => .bad
  | .sc (.slice _ n _) => match L with
    | some _ => .ok True (.sc (.int .i64 n))
    | none => .bad
  | .nt => match L with
    | some _ => .ok True (.sc (.int .i64 0))
    | none => .bad
  | .ot _ n _ => match L with
    | some _ => .ok True (.sc (.int .i64 n))
    | none => .bad
  | .sc (.string s) => .ok (st = true) (.sc (.int .i64 s.size))
  | _ => match A with
    | some (n, _) => .ok True (.sc (.int .i64 n))
    | none => .bad
def bnd (x : Option SV) (d : Nat) : Option Int :=
  match x with
  | none => some d
  | some (.sc (.int _ n)) => some n
  | _ => none
def sliceSV (st : Bool) (L : Option (TypeId × Nat × Nat)) (x : SV) (lo hi mx : Option SV) : VRes :=
  match mx with
  | some m => match hi with
    | none => .bad
    | some hi => match x with
      | .fl n sz f => match L, bnd lo 0, bnd (some hi) n, bnd (some m) n with
        | some (_, s, _), some l, some h, some m => .ok (sz = s ∧ 0 ≤ l ∧ l ≤ h ∧ h ≤ m ∧ m ≤ n) (.fl (h - l).toNat sz (fun i => f (l.toNat + i)))
        | _, _, _, _ => .bad
      | .os b off n sz => match L, bnd lo 0, bnd (some hi) n, bnd (some m) n with
        | some (_, s, _), some l, some h, some m => .ok (sz = s ∧ 0 ≤ l ∧ l ≤ h ∧ h ≤ m ∧ m ≤ n ∧ (l = 0 ∨ l < h)) (.os b (off + l.toNat * s) (h - l).toNat sz)
        | _, _, _, _ => .bad
      | _ => .bad
  | none => match x with
    | .sc (.string s) => match bnd lo 0, bnd hi s.size with
      | some l, some h => .ok (st = true ∧ 0 ≤ l ∧ l ≤ h ∧ h ≤ s.size) (.sc (.string (s.extract l.toNat h.toNat)))
      | _, _ => .bad
    | .sc (.slice none 0 0) => match L, bnd lo 0, bnd hi 0 with
      | some _, some l, some h => .ok (0 ≤ l ∧ l ≤ h ∧ h ≤ 0) (.sc (.slice none 0 0))
      | _, _, _ => .bad
    | .fl n sz f => match L, bnd lo 0, bnd hi n with
      | some (_, s, _), some l, some h => .ok (sz = s ∧ 0 ≤ l ∧ l ≤ h ∧ h ≤ n) (.fl (h - l).toNat sz (fun i => f (l.toNat + i)))
      | _, _, _ => .bad
    | .os b off n sz => match L, bnd lo 0, bnd hi n with
      | some (_, s, _), some l, some h => .ok (sz = s ∧ 0 ≤ l ∧ l ≤ h ∧ h ≤ n ∧ (l = 0 ∨ l < h)) (.os b (off + l.toNat * s) (h - l).toNat sz)
      | _, _, _ => .bad
    | _ => .bad
def convSV (kd : Option IntKind) (sd : Bool) (x : SV) : VRes :=
  match x with
  | .sc (.int _ n) => match kd with
    | some k => .ok True (.sc (.int k (k.wrap n)))
    | none => bif sd then .ok True (.sc (.string (Utf8.encode n))) else .bad
  | .sc (.string s) => bif sd then .ok True (.sc (.string s)) else .bad
  | _ => .bad
def bsl (P : Program) (t : TypeId) : Bool := match P.underlying t with
  | some (.slice e) => match P.underlying e with
    | some (.int .u8) => true
    | _ => false
  | _ => false
def bstr (l : List Int) : ByteArray := ⟨(l.map fun n => UInt8.ofNat n.toNat).toArray⟩
def byteOf : SV → Int
  | .sc (.int _ n) => n
  | _ => 0
def isByte : SV → Bool
  | .sc (.int .u8 _) => true
  | _ => false
def cvtK (k : Blk) (off n : Nat) : VRes := match k with
  | .ints k l => .ok (k = .u8 ∧ off + n ≤ l.length) (.sc (.string (bstr ((l.drop off).take n))))
  | .svs cs => .ok (off + n ≤ cs.length ∧ ((cs.drop off).take n).all isByte = true) (.sc (.string (bstr (((cs.drop off).take n).map byteOf))))
  | _ => .bad
def convX (bs : Bool) (kd : Option IntKind) (sd : Bool) (x : SV) (h : Heap) : VRes := match x with
  | .os b off n sz => bif bs && sd && Nat.beq sz 1 then (match h.find b with
    | some k => cvtK k off n
    | none => .bad) else .bad
  | .sc (.slice none 0 0) => .ok (bs = true ∧ sd = true) (.sc (.string ⟨#[]⟩))
  | x => convSV kd sd x
def arrSl (n s : Nat) (x : SV) (lo hi mx : Option SV) (h : Heap) : VRes := match mx with
  | some _ => .bad
  | none => match bnd lo 0, bnd hi n with
    | some l, some r => match x with
      | .op b off => match h.find b with
        | some k => .ok (0 ≤ l ∧ l ≤ r ∧ r ≤ n ∧ (l = 0 ∨ l < r) ∧ off + n * s ≤ k.len ∧ k.isM = false) (.os b (off + l.toNat * s) (r - l).toNat s)
        | none => .bad
      | .fp cs => .ok (0 ≤ l ∧ l ≤ r ∧ r ≤ n ∧ n * s = cs.length) (.fl (r - l).toNat s (fun i => (cs.drop ((l.toNat + i) * s)).take s))
      | _ => .bad
    | _, _ => .bad
def sliceX (A : Option (Nat × Nat)) (st : Bool) (L : Option (TypeId × Nat × Nat)) (x : SV) (lo hi mx : Option SV) (h : Heap) : VRes := match A with
  | some (n, s) => arrSl n s x lo hi mx h
  | none => sliceSV st L x lo hi mx
def nilSV (x : SV) : VRes :=
  match x with
  | .fp cs => .ok True (.fp cs)
  | .op b o => .ok True (.op b o)
  | .fn (.func f) a c => .ok True (.fn (.func f) a c)
  | .opT b _ _ => .ok True (.op b 0)
  | _ => .bad
def zfill (z : List Value) (n : Nat) : List SV := match n with
  | 0 => []
  | n + 1 => z.map SV.sc ++ zfill z n
def zeros (z : List Value) (n : Nat) : Blk :=
  match z with
  | [.int k 0] => .ints k (List.replicate n 0)
  | [.bool false] => .bools (List.replicate n false)
  | z => .svs (zfill z n)
def makeSV (L : Option (TypeId × Nat × Nat)) (Z : Option (List Value)) (l c : SV) : VRes :=
  match L, Z, l, c with
  | some (_, s, bytes), some z, .sc (.int _ n), .sc (.int _ m) =>
    .new (0 ≤ n ∧ n ≤ m ∧ m ≤ 9223372036854775807 ∧ bytes * m ≤ 281474976710656 ∧ z.length = s ∧ 0 < s) (zeros z m.toNat) (fun b => .os b 0 n.toNat s)
  | _, _, _, _ => .bad
/-! maps of plain keys and values -/
inductive KK where | i (k : IntKind) | b | s
def kkOf (P : Program) (t : TypeId) : Option KK := match P.underlying t with
  | some (.int k) => some (.i k)
  | some .bool => some .b
  | some .string => some .s
  | _ => none
def kkOk (c : KK) (a : Value) : Bool := match c, a with
  | .i k, .int k' _ => decide (k' = k)
  | .b, .bool _ => true
  | .s, .string _ => true
  | _, _ => false
def z1 (P : Program) (t : TypeId) : Option Value := match P.info? t with
  | some i => match i.zero with
    | some (.bool b) => some (.bool b)
    | some (.int k n) => some (.int k n)
    | some (.string s) => some (.string s)
    | _ => none
  | none => none
def mtk (P : Program) (t : TypeId) : Option (KK × Value) := match P.underlying t with
  | some (.map k e) => match kkOf P k, z1 P e with
    | some c, some z => some (c, z)
    | _, _ => none
  | _ => none
def sameC (c : KK) (a b : Value) : Option Bool := match c, a, b with
  | .i _, .int k x, .int k' y => if k = k' then some (x == y) else none
  | .s, .string x, .string y => some (x == y)
  | .b, .bool x, .bool y => some (x == y)
  | _, _, _ => none
def mfI (c : KK) (a : Value) : List (Value × Value) → Nat → Option (Option (Nat × Value))
  | [], _ => some none
  | (k, v) :: r, i => match sameC c a k with
    | some true => some (some (i, v))
    | some false => mfI c a r (i + 1)
    | none => none
def lookR (ok : Bool) (z : Value) (r : Option (Option (Nat × Value))) : VRes := match r with
  | some (some (_, v)) => .ok True (bif ok then .tup [.sc v, .sc (.bool true)] else .sc v)
  | some none => .ok True (bif ok then .tup [.sc z, .sc (.bool false)] else .sc z)
  | none => .bad
def lookSV (T : Option (KK × Value)) (ok : Bool) (x k : SV) (h : Heap) : VRes := match T, x, k with
  | some (c, z), .mp b, .sc a => match h.find b with
    | some (.mp l) => bif kkOk c a then lookR ok z (mfI c a l 0) else .bad
    | _ => .bad
  | _, _, _ => .bad
def mset (a v : Value) (l : List (Value × Value)) (r : Option (Nat × Value)) : List (Value × Value) := match r with
  | some (i, _) => l.set i (a, v)
  | none => l ++ [(a, v)]
def mdel (l : List (Value × Value)) (r : Option (Nat × Value)) : List (Value × Value) := match r with
  | some (i, _) => l.eraseIdx i
  | none => l
end Go.Ab
/-! Ad: The model's operations yield what the abstract layer says: those that leave the world as it is. -/
namespace Go.Ab
open Go.RowKit
section
variable {P : Program} {M : Nat → Prop} {h : Heap} {w : World}
theorem Heap.find_mem {h : Heap} {b : Nat} {k : Blk} (hf : h.find b = some k) : (b, k) ∈ h := by
  induction h with
  | nil => cases hf
  | cons x r ih =>
    obtain ⟨c, k'⟩ := x
    simp only [Heap.find] at hf
    split at hf
    · rename_i hc; subst hc; cases hf; exact List.mem_cons_self
    · exact List.mem_cons_of_mem _ (ih hf)
theorem run_isAgg {t : TypeId} {g : Bool} {n : Nat} (ht : tk P t = some (g, n)) (w : World) : (isAgg t).run P w = .ok g w := by
  unfold tk at ht
  unfold isAgg underlying
  cases hu : P.underlying t with
  | none => simp [hu] at ht
  | some d =>
    cases hi : P.info? t with
    | none => rw [hu, hi] at ht; cases d <;> simp at ht
    | some i => rw [hu, hi] at ht; cases d <;> simp at ht <;> simp [hu, ht.1]
theorem run_sizeOf {t : TypeId} {g : Bool} {n : Nat} (ht : tk P t = some (g, n)) (w : World) : (sizeOf t).run P w = .ok n w := by
  unfold tk at ht
  unfold sizeOf typeInfo
  cases hu : P.underlying t with
  | none => simp [hu] at ht
  | some d =>
    cases hi : P.info? t with
    | none => rw [hu, hi] at ht; cases d <;> simp at ht
    | some i => rw [hu, hi] at ht; cases d <;> simp at ht <;> simp [hi, ht.2]
theorem run_sizeOf_info {t : TypeId} {i : TypeInfo} (hi : P.info? t = some i) (w : World) : (sizeOf t).run P w = .ok i.size w := by
  simp [sizeOf, typeInfo, hi]
theorem run_typeInfo {t : TypeId} {i : TypeInfo} (hi : P.info? t = some i) (w : World) : (typeInfo t).run P w = .ok i w := by
  simp [typeInfo, hi]
theorem slk_spec {t : TypeId} {e s b : Nat} (hs : slk P t = some (e, s, b)) : ∃ i, P.underlying t = some (.slice e) ∧ P.info? e = some i ∧ i.size = s ∧ i.bytes = b := by
  unfold slk at hs
  split at hs
  · rename_i e' hu
    split at hs
    · rename_i i hi
      simp at hs
      obtain ⟨rfl, rfl, rfl⟩ := hs
      exact ⟨i, hu, hi, rfl, rfl⟩
    · cases hs
  · cases hs
theorem ark_spec {t : TypeId} {n s : Nat} (hs : ark P t = some (n, s)) : ∃ e i, P.underlying t = some (.array n e) ∧ P.info? e = some i ∧ i.size = s := by
  unfold ark at hs
  split at hs
  · rename_i n' e' hu
    split at hs
    · rename_i i hi
      simp at hs
      obtain ⟨rfl, rfl⟩ := hs
      exact ⟨e', i, hu, hi, rfl⟩
    · cases hs
  · cases hs
theorem arn_spec {t : TypeId} {n s : Nat} {g : Bool} (hs : arn P t = some (n, g, s)) : ∃ e, P.underlying t = some (.array n e) ∧ tk P e = some (g, s) := by
  unfold arn at hs
  split at hs
  · rename_i n' e' hu
    split at hs
    · rename_i i hi
      simp at hs
      obtain ⟨rfl, rfl, rfl⟩ := hs
      exact ⟨_, hu, hi⟩
    · cases hs
  · cases hs
theorem fdk_spec {s : TypeId} {i off n : Nat} {g : Bool} (hs : fdk P s i = some (off, g, n)) : ∃ fs f, P.underlying s = some (.struct fs) ∧ fs[i]? = some f ∧ f.offset = off ∧ tk P f.type = some (g, n) := by
  unfold fdk at hs
  split at hs
  · rename_i fs hu
    split at hs
    · rename_i f hf
      split at hs
      · rename_i g' n' hk
        simp at hs
        obtain ⟨rfl, rfl, rfl⟩ := hs
        exact ⟨fs, f, hu, hf, rfl, hk⟩
      · cases hs
    · cases hs
  · cases hs
theorem run_loadCellsFrom {a : Addr} (val : Nat → Value) : ∀ (n i : Nat) (acc : Array Value), (∀ j, j < n → w.cell? (a.add (i + j)) = some (val (i + j))) →
    (loadCellsFrom a i n acc).run P w = .ok (acc ++ ((List.range n).map fun j => val (i + j)).toArray) w := by
  intro n
  induction n with
  | zero => intro i acc _; simp [loadCellsFrom]
  | succ n ih =>
    intro i acc hc
    have h0 := hc 0 (by omega)
    simp only [Nat.add_zero] at h0
    simp only [loadCellsFrom, Sem.run_bind, run_load, h0, Result.andThen_ok]
    rw [ih (i + 1) (acc.push (val i)) (fun j hj => by have := hc (j + 1) (by omega); rwa [show i + (j + 1) = i + 1 + j by omega] at this)]
    congr 1
    rw [List.range_succ_eq_map]
    simp [Function.comp_def, Nat.add_assoc, Nat.add_comm 1]
theorem run_loadVar_agg [Gl] {t : TypeId} {n : Nat} (ht : tk P t = some (true, n)) {b off : Nat} (val : Nat → Value) (hc : ∀ j, j < n → w.cell? ⟨b, off + j, none⟩ = some (val j)) :
    (loadVar t ⟨b, off, none⟩).run P w = .ok (.agg ((List.range n).map val).toArray) w := by
  have := run_loadCellsFrom (P := P) (w := w) (a := ⟨b, off, none⟩) val n 0 #[] (fun j hj => by simpa [Addr.add_lit] using hc j hj)
  simp only [loadVar, Sem.run_bind, run_isAgg ht, run_sizeOf ht, Result.andThen_ok, if_true, loadCells, this]
  simp
theorem run_loadVar_one [Gl] {t : TypeId} {n : Nat} (ht : tk P t = some (false, n)) {a : Addr} {v : Value} (hc : w.cell? a = some v) :
    (loadVar t a).run P w = .ok v w := by
  simp [loadVar, run_isAgg ht, hc]
theorem Owns.cell [Gl] (own : Owns M h w) {b : Nat} {k : Blk} (hm : (b, k) ∈ h) {i : Nat} (hi : i < k.len) : ∃ v, w.cell? ⟨b, i, none⟩ = some v ∧ Rep (envOf (hid M h) w) v (k.get i) := by
  obtain ⟨c, e, hb, hl, hr⟩ := own.ok b k hm (Blk.isM_lt hi)
  have hlt : i < c.size := Nat.lt_of_lt_of_le hi hl
  refine ⟨c[i], by simp [World.cell?, hb, hlt], ?_⟩
  have := hr i hi
  simpa [hlt] using this
theorem Owns.hasSize [Gl] (own : Owns M h w) {b : Nat} {k : Blk} (hm : (b, k) ∈ h) (hk : k.isM = false) : ∃ m, HasSize w b (m, none) ∧ k.len ≤ m := by
  obtain ⟨c, e, hb, hl, _⟩ := own.ok b k hm hk
  exact ⟨c.size, ⟨c, e, _, hb, rfl, .inl rfl⟩, hl⟩
theorem length_getN [Gl] (k : Blk) : ∀ (n off : Nat), (getN k off n).length = n
  | 0, _ => rfl
  | n + 1, off => by simp [getN, length_getN k n]
theorem getD_getN [Gl] (k : Blk) : ∀ (n off j : Nat), j < n → (getN k off n).getD j .any = k.get (off + j)
  | 0, _, _, h => absurd h (by omega)
  | n + 1, off, 0, _ => by simp [getN]
  | n + 1, off, j + 1, h => by
    have := getD_getN k n (off + 1) j (by omega)
    simp only [getN, List.getD_cons_succ]
    rw [this]; congr 1; omega
theorem getD_list {α : Type} (l : List α) (n : Nat) (d : α) (h : n < l.length) : l.getD n d = l[n] := by simp [h]
theorem load_sound [Gl] {t : TypeId} {u : Value} {x v : SV} {pre : Prop} (own : Owns M h w) (hx : Rep (envOf (hid M h) w) u x)
    (hv : loadSV (tk P t) x h = .ok pre v) (hp : pre) : ∃ r, (Instr.loadAt t u).run P w = .ok r w ∧ Rep (envOf (hid M h) w) r v := by
  unfold loadSV at hv
  split at hv
  · rename_i n cs ht
    cases hv
    cases hx with
    | fp b off _ val hs hr =>
      exact ⟨val 0, by simp [Instr.loadAt, Instr.sureAddr, run_loadVar_one ht (by simpa using (hs 0 hp).2)], hr 0 hp⟩
  · rename_i n cs ht
    cases hv
    cases hx with
    | fp b off _ val hs hr =>
      refine ⟨_, by simp only [Instr.loadAt, Instr.sureAddr, Sem.run_bind, Sem.run_pure, Result.andThen_ok]; exact run_loadVar_agg ht val (fun j hj => (hs j (by omega)).2), ?_⟩
      refine .agg _ _ (by simp [hp]) (fun j hj => ?_)
      have := hr j hj
      simpa [show j < n by omega] using this
  · rename_i n b off ht
    split at hv
    · rename_i k hk
      cases hv
      cases hx with
      | op _ _ =>
        obtain ⟨r, hc, hr⟩ := own.cell (Heap.find_mem hk) hp
        exact ⟨r, by simp [Instr.loadAt, Instr.sureAddr, run_loadVar_one ht hc], hr⟩
    · cases hv
  · rename_i n b off ht
    split at hv
    · rename_i k hk
      cases hv
      cases hx with
      | op _ _ =>
        have hm := Heap.find_mem hk
        have hex : ∀ j, ∃ r, j < n → w.cell? ⟨b, off + j, none⟩ = some r ∧ Rep (envOf (hid M h) w) r (k.get (off + j)) := fun j => by
          by_cases hj : j < n
          · obtain ⟨r, h1, h2⟩ := own.cell hm (i := off + j) (by omega)
            exact ⟨r, fun _ => ⟨h1, h2⟩⟩
          · exact ⟨default, fun x => absurd x hj⟩
        obtain ⟨val, hval⟩ := Classical.axiomOfChoice hex
        refine ⟨_, by simp only [Instr.loadAt, Instr.sureAddr, Sem.run_bind, Sem.run_pure, Result.andThen_ok]; exact run_loadVar_agg ht val (fun j hj => (hval j hj).1), ?_⟩
        refine .agg _ _ (by simp [length_getN]) (fun j hj => ?_)
        rw [length_getN] at hj
        rw [getD_getN k n off j hj]
        have := (hval j hj).2
        simpa [hj] using this
    · cases hv
  · cases hv
theorem index_lt {i n s : Nat} (hi : i < n) : i * s + s ≤ n * s := by
  have := Nat.mul_le_mul_right s (Nat.succ_le_of_lt hi)
  rwa [Nat.succ_mul] at this
theorem indexAddr_sound [Gl] {t : TypeId} {u u' : Value} {x i v : SV} {pre : Prop} (hx : Rep (envOf (hid M h) w) u x) (hi : Rep (envOf (hid M h) w) u' i)
    (hv : indexAddrSV (slk P t) (ark P t) x i = .ok pre v) (hp : pre) : ∃ r, (Instr.indexAt t u u').run P w = .ok r w ∧ Rep (envOf (hid M h) w) r v := by
  unfold indexAddrSV at hv
  split at hv
  · rename_i kk n
    cases hi
    split at hv
    · rename_i m sz f
      split at hv
      · rename_i q s bb hL
        cases hv
        obtain ⟨h0, h1, rfl⟩ := hp
        obtain ⟨i, hu, hin, rfl, rfl⟩ := slk_spec hL
        have hn : n.toNat < m := by omega
        cases hx with
        | fl0 a cap sz f => omega
        | fl b off _ cap _ _ val hc hl hs hr =>
          refine ⟨.pointer (some ⟨b, off + n.toNat * i.size, none⟩), by simp [Instr.indexAt, run_underlying hu, asIntOf, h0, h1, run_sizeOf_info hin, Addr.add_lit], ?_⟩
          exact .fp b _ _ (val n.toNat) (fun j hj => by rw [hl _ hn] at hj; exact hs _ hn j hj) (fun j hj => by rw [hl _ hn] at hj; exact hr _ hn j hj)
      · cases hv
    · rename_i b off len sz
      split at hv
      · rename_i q s bb hL
        cases hv
        obtain ⟨h0, h1, rfl⟩ := hp
        obtain ⟨i, hu, hin, rfl, rfl⟩ := slk_spec hL
        cases hx with
        | os _ _ _ cap _ m hc hm hb =>
          exact ⟨_, by simp [Instr.indexAt, run_underlying hu, asIntOf, h0, h1, run_sizeOf_info hin, Addr.add_lit], .op _ _⟩
      · cases hv
    · rename_i b off
      split at hv
      · rename_i len s hA
        cases hv
        obtain ⟨h0, h1⟩ := hp
        obtain ⟨e, i, hu, hin, rfl⟩ := ark_spec hA
        cases hx with
        | op _ _ => exact ⟨_, by simp [Instr.indexAt, run_underlying hu, asIntOf, h0, h1, run_sizeOf_info hin, Addr.add_lit, Instr.sureAddr], .op _ _⟩
      · cases hv
    · rename_i cs
      split at hv
      · rename_i len s hA
        cases hv
        obtain ⟨h0, h1, h2⟩ := hp
        obtain ⟨e, i, hu, hin, rfl⟩ := ark_spec hA
        cases hx with
        | fp b off _ val hs hr =>
          refine ⟨.pointer (some ⟨b, off + n.toNat * i.size, none⟩), by simp [Instr.indexAt, run_underlying hu, asIntOf, h0, h1, run_sizeOf_info hin, Addr.add_lit, Instr.sureAddr], ?_⟩
          have hlt := index_lt (i := n.toNat) (n := len) (s := i.size) (by omega)
          have hlen : ((cs.drop (n.toNat * i.size)).take i.size).length = i.size := by simp; omega
          refine .fp _ _ _ (fun j => val (n.toNat * i.size + j)) (fun j hj => ?_) (fun j hj => ?_)
          · rw [hlen] at hj
            have := hs (n.toNat * i.size + j) (by omega)
            rwa [← Nat.add_assoc] at this
          · rw [hlen] at hj
            have := hr (n.toNat * i.size + j) (by omega)
            rw [List.getD_eq_getElem?_getD] at this ⊢
            rwa [List.getElem?_take_of_lt hj, List.getElem?_drop]
      · cases hv
    · cases hv
  · cases hv
theorem fieldAddr_sound [Gl] {s : TypeId} {f : Nat} {u : Value} {x v : SV} {pre : Prop} (hx : Rep (envOf (hid M h) w) u x)
    (hv : fieldAddrSV (fdk P s f) x = .ok pre v) (hp : pre) : ∃ r, (Instr.fieldAt s u f).run P w = .ok r w ∧ Rep (envOf (hid M h) w) r v := by
  unfold fieldAddrSV at hv
  split at hv
  · rename_i off g n cs hF
    cases hv
    obtain ⟨hn, hl⟩ := hp
    obtain ⟨fs, fd, hu, hf, rfl, hk⟩ := fdk_spec hF
    cases hx with
    | fp b o _ val hs hr =>
      refine ⟨.pointer (some ⟨b, o + fd.offset, none⟩), by simp [Instr.fieldAt, run_underlying hu, hf, Instr.sureAddr, fieldPlace, run_sizeOf hk, hn, Addr.add_lit], ?_⟩
      have hlen : ((cs.drop fd.offset).take n).length = n := by simp; omega
      refine .fp _ _ _ (fun j => val (fd.offset + j)) (fun j hj => ?_) (fun j hj => ?_)
      · rw [hlen] at hj
        have := hs (fd.offset + j) (by omega)
        rwa [← Nat.add_assoc] at this
      · rw [hlen] at hj
        have := hr (fd.offset + j) (by omega)
        rw [List.getD_eq_getElem?_getD] at this ⊢
        rwa [List.getElem?_take_of_lt hj, List.getElem?_drop]
  · rename_i off g n b o hF
    cases hv
    obtain ⟨fs, fd, hu, hf, rfl, hk⟩ := fdk_spec hF
    cases hx with
    | op _ _ => exact ⟨_, by simp [Instr.fieldAt, run_underlying hu, hf, Instr.sureAddr, fieldPlace, run_sizeOf hk, hp, Addr.add_lit], .op _ _⟩
  · cases hv
theorem field_sound [Gl] {s : TypeId} {f : Nat} {u : Value} {x v : SV} {pre : Prop} (hx : Rep (envOf (hid M h) w) u x)
    (hv : fieldSV (fdk P s f) x = .ok pre v) (hp : pre) : ∃ r, (Instr.field s u f).run P w = .ok r w ∧ Rep (envOf (hid M h) w) r v := by
  unfold fieldSV at hv
  split at hv
  · rename_i off n cs hF
    cases hv
    obtain ⟨fs, fd, hu, hf, rfl, hk⟩ := fdk_spec hF
    cases hx with
    | agg c _ hl hr =>
      refine ⟨.agg (c.extract fd.offset (fd.offset + n)), by simp [Instr.field, run_underlying hu, hf, asAgg, part, run_isAgg hk, run_sizeOf hk], ?_⟩
      have hlen : ((cs.drop fd.offset).take n).length = n := by simp; omega
      refine .agg _ _ (by rw [hlen]; simp; omega) (fun j hj => ?_)
      rw [hlen] at hj
      have := hr (fd.offset + j) (by omega)
      rw [List.getD_eq_getElem?_getD] at this ⊢
      rw [List.getElem?_take_of_lt hj, List.getElem?_drop]
      rw [Array.getD_eq_getD_getElem?] at this ⊢
      rwa [Array.getElem?_extract, if_pos (by omega)]
  · rename_i off n cs hF
    cases hv
    obtain ⟨fs, fd, hu, hf, rfl, hk⟩ := fdk_spec hF
    cases hx with
    | agg c _ hl hr =>
      have hlt : fd.offset < c.size := by omega
      refine ⟨c[fd.offset], by simp [Instr.field, run_underlying hu, hf, asAgg, part, run_isAgg hk, hlt], ?_⟩
      have := hr _ hp
      simpa [hlt] using this
  · cases hv
theorem run_equalIn_bool {t : TypeId} (hu : P.underlying t = some .bool) (d : Nat) (a b : Bool) (w : World) : (Op.equalIn (d + 1) t (.bool a) (.bool b)).run P w = .ok (a == b) w := by
  simp [Op.equalIn, run_underlying hu]
theorem run_equal_bool [Gl] {t : TypeId} (hu : P.underlying t = some .bool) (a b : Bool) (w : World) : (Op.equal t (.bool a) (.bool b)).run P w = .ok (a == b) w :=
  run_equalIn_bool hu 9999 a b w
theorem binOp_eql_bool (t : TypeId) (a b : Bool) : binOp .eql t (.bool a) (.bool b) = (do pure (.bool (← Op.equal t (.bool a) (.bool b)))) := rfl
theorem binOp_neq_bool (t : TypeId) (a b : Bool) : binOp .neq t (.bool a) (.bool b) = (do pure (.bool (!(← Op.equal t (.bool a) (.bool b))))) := rfl
theorem binOp_str_add (t : TypeId) (a b : ByteArray) : binOp .add t (.string a) (.string b) = Op.stringOp .add a b := rfl
theorem binOp_str_eql (t : TypeId) (a b : ByteArray) : binOp .eql t (.string a) (.string b) = Op.stringOp .eql a b := rfl
theorem binOp_str_neq (t : TypeId) (a b : ByteArray) : binOp .neq t (.string a) (.string b) = Op.stringOp .neq a b := rfl
theorem binOp_str_lss (t : TypeId) (a b : ByteArray) : binOp .lss t (.string a) (.string b) = Op.stringOp .lss a b := rfl
theorem binOp_str_leq (t : TypeId) (a b : ByteArray) : binOp .leq t (.string a) (.string b) = Op.stringOp .leq a b := rfl
theorem binOp_str_gtr (t : TypeId) (a b : ByteArray) : binOp .gtr t (.string a) (.string b) = Op.stringOp .gtr a b := rfl
theorem binOp_str_geq (t : TypeId) (a b : ByteArray) : binOp .geq t (.string a) (.string b) = Op.stringOp .geq a b := rfl
/-! ### structs are compared -/
theorem run_forIn_ret {α : Type} (F : α → Option Bool × Unit → Sem (ForInStep (Option Bool × Unit))) : ∀ (l : List α) (rs : List Bool), l.length = rs.length →
    (∀ i (hi : i < l.length), (F l[i] (none, ())).run P w = .ok (if rs.getD i true = true then .yield (none, ()) else .done (some false, ())) w) →
    (forIn l (none, ()) F).run P w = .ok (if rs.all id = true then (none, ()) else (some false, ())) w
  | [], [], _, _ => by simp
  | x :: l, [], h, _ => by simp at h
  | [], r :: rs, h, _ => by simp at h
  | x :: l, r :: rs, h, hf => by
    have h0 := hf 0 (by simp)
    simp only [List.getElem_cons_zero, List.getD_cons_zero] at h0
    simp only [List.forIn_cons, Sem.run_bind, h0, Result.andThen_ok]
    cases r with
    | false => simp
    | true =>
      have := run_forIn_ret F l rs (by simpa using h) (fun i hi => by have := hf (i + 1) (by simpa using hi); simpa using this)
      simp [this]
theorem run_equal_struct {t : TypeId} {fs : Array Field} {d : Nat} (hu : P.underlying t = some (.struct fs)) (hs : P.stoodInHeld t = false) (c c' : Array Value) (rs : List Bool) (hl : fs.toList.length = rs.length)
    (hf : ∀ i (hi : i < fs.toList.length), fs.toList[i].name ≠ "_" ∧ ∃ x y, (part fs.toList[i].type c fs.toList[i].offset).run P w = .ok x w ∧ (part fs.toList[i].type c' fs.toList[i].offset).run P w = .ok y w ∧
      (Op.equalIn d fs.toList[i].type x y).run P w = .ok (rs.getD i true) w) :
    (Op.equalIn (d + 1) t (.agg c) (.agg c')).run P w = .ok (rs.all id) w := by
  have key := run_forIn_ret (P := P) (w := w) (fun f (s : Option Bool × Unit) => do
    if f.name ≠ "_" then
      if !(← Op.equalIn d f.type (← part f.type c f.offset) (← part f.type c' f.offset)) then return ForInStep.done (some false, ())
    pure (ForInStep.yield (none, ()))) fs.toList rs hl (fun i hi => by
      obtain ⟨hn, x, y, h1, h2, h3⟩ := hf i hi
      simp only [hn, ne_eq, not_false_eq_true, if_true, Sem.run_bind, h1, h2, h3, Result.andThen_ok, Sem.run_pure, Sem.run_ite]
      cases rs.getD i true <;> simp)
  simp only [Op.equalIn, Sem.run_bind, run_underlying hu, Result.andThen_ok, hs, run_program, Bool.false_eq_true, if_false, ← Array.forIn_toList]
  erw [key]
  cases rs.all id <;> simp
theorem run_part_one {t : TypeId} {c : Array Value} {off : Nat} (ht : ∃ d, P.underlying t = some d ∧ (match d with | .struct _ | .array _ _ => true | _ => false) = false) (hl : off < c.size) : (part t c off).run P w = .ok (c.getD off undef) w := by
  obtain ⟨d, hd, hn⟩ := ht
  unfold part isAgg
  cases d <;> first | (simp at hn; done) | simp [run_underlying hd, hl]
theorem ckOf_und {t : TypeId} {k : CK} (h : ckOf P t = some k) : ∃ d, P.underlying t = some d ∧ (match d with | .struct _ | .array _ _ => true | _ => false) = false := by
  unfold ckOf at h
  split at h
  · exact ⟨_, by assumption, rfl⟩
  · exact ⟨_, by assumption, rfl⟩
  · exact ⟨_, by assumption, rfl⟩
  · cases h
theorem and2_some {x y : Option (Prop × Bool)} {p : Prop} {r : Bool} (h : and2 x y = some (p, r)) (hp : p) : ∃ p1 r1 p2 r2, x = some (p1, r1) ∧ y = some (p2, r2) ∧ p1 ∧ p2 ∧ r = (r1 && r2) := by
  unfold and2 at h
  split at h
  · cases h; exact ⟨_, _, _, _, rfl, rfl, hp.1, hp.2, rfl⟩
  · cases h
theorem eq1_sound {E : Env} {k : CK} {x y : SV} {p : Prop} {r : Bool} (h : eq1 k x y = some (p, r)) (hp : p) {t : TypeId} (hk : ckOf P t = some k) {u v : Value} (hu : Rep E u x) (hv : Rep E v y) (d : Nat) :
    (Op.equalIn (d + 1) t u v).run P w = .ok r w := by
  unfold ckOf at hk
  unfold eq1 at h
  split at h <;> first | (cases h; done) | skip
  all_goals
    cases h
    cases hu; cases hv
    split at hk <;> first | (cases hk; done) | skip
    rename_i hund
  · subst hp
    rw [run_equalIn_int _ _ _ _ _ _ _ hund]; rfl
  · rw [run_equalIn_bool hund]
  · rw [run_equalIn_string _ _ _ _ _ hund]
theorem eqC_len : ∀ {ks : List CK} {xs ys : List SV} {p : Prop} {r : Bool}, eqC ks xs ys = some (p, r) → p → xs.length = ks.length ∧ ys.length = ks.length
  | [], [], [], _, _, _, _ => ⟨rfl, rfl⟩
  | k :: ks, x :: xs, y :: ys, p, r, h, hp => by
    obtain ⟨p1, r1, p2, r2, _, h2, _, hp2, _⟩ := and2_some h hp
    obtain ⟨e1, e2⟩ := eqC_len h2 hp2
    simp [e1, e2]
  | [], [], y :: ys, _, _, h, _ => by simp [eqC] at h
  | [], x :: xs, _, _, _, h, _ => by simp [eqC] at h
  | k :: ks, [], _, _, _, h, _ => by simp [eqC] at h
  | k :: ks, x :: xs, [], _, _, h, _ => by simp [eqC] at h
theorem eqC_sound {E : Env} {c c' : Array Value} {d : Nat} : ∀ (fs : List Field) (off : Nat) (ks : List CK) (xs ys : List SV) (p : Prop) (r : Bool), ckFs P off fs = some ks → eqC ks xs ys = some (p, r) → p →
    (∀ i, i < xs.length → off + i < c.size ∧ Rep E (c.getD (off + i) undef) (xs.getD i .any)) → (∀ i, i < ys.length → off + i < c'.size ∧ Rep E (c'.getD (off + i) undef) (ys.getD i .any)) →
    ∃ rs : List Bool, fs.length = rs.length ∧ r = rs.all id ∧ ∀ i (hi : i < fs.length), fs[i].name ≠ "_" ∧ ∃ x y, (part fs[i].type c fs[i].offset).run P w = .ok x w ∧ (part fs[i].type c' fs[i].offset).run P w = .ok y w ∧
      (Op.equalIn (d + 1) fs[i].type x y).run P w = .ok (rs.getD i true) w
  | [], off, ks, xs, ys, p, r, hk, he, hp, h1, h2 => by
    cases hk
    obtain ⟨l1, l2⟩ := eqC_len he hp
    match xs, ys, l1, l2 with
    | [], [], _, _ => cases he; exact ⟨[], rfl, rfl, fun i hi => absurd hi (by simp)⟩
  | f :: fs, off, ks, xs, ys, p, r, hk, he, hp, h1, h2 => by
    unfold ckFs at hk
    cases hn : (f.name != "_" && Nat.beq f.offset off) with
    | false => rw [hn] at hk; cases hk
    | true =>
      rw [hn] at hk
      simp only [cond_true] at hk
      split at hk <;> first | (cases hk; done) | skip
      rename_i k r' hk1 hk2
      cases hk
      obtain ⟨l1, l2⟩ := eqC_len he hp
      match xs, ys, l1, l2 with
      | x :: xs, y :: ys, l1, l2 =>
        have a1 := h1 0 (by simp)
        have a2 := h2 0 (by simp)
        simp only [Nat.add_zero, List.getD_cons_zero] at a1 a2
        obtain ⟨p1, b, p', r'', e0, e1, hp1, e2, e3⟩ := and2_some he hp
        have e4 := eq1_sound (P := P) (w := w) e0 hp1 hk1 a1.2 a2.2 d
        obtain ⟨rs, g1, g2, g3⟩ := eqC_sound fs (off + 1) _ xs ys p' r'' hk2 e1 e2
          (fun i hi => by have := h1 (i + 1) (by simpa using hi); rw [List.getD_cons_succ] at this; rwa [show off + 1 + i = off + (i + 1) by omega])
          (fun i hi => by have := h2 (i + 1) (by simpa using hi); rw [List.getD_cons_succ] at this; rwa [show off + 1 + i = off + (i + 1) by omega])
        simp only [Bool.and_eq_true, bne_iff_ne, ne_eq, Nat.beq_eq] at hn
        refine ⟨b :: rs, by simp [g1], by rw [e3, g2]; rfl, fun i hi => ?_⟩
        match i, hi with
        | 0, _ =>
          refine ⟨hn.1, _, _, ?_, ?_, by simpa using e4⟩
          · simp only [List.getElem_cons_zero]; rw [hn.2]; simpa using run_part_one (ckOf_und hk1) a1.1
          · simp only [List.getElem_cons_zero]; rw [hn.2]; simpa using run_part_one (ckOf_und hk1) a2.1
        | i + 1, hi =>
          have := g3 i (by simpa using hi)
          simpa using this
theorem subk_spec {t : TypeId} {q : List CK} (h : subk P t = some q) : ∃ fs, P.underlying t = some (.struct fs) ∧ P.stoodInHeld t = false ∧ ckFs P 0 fs.toList = some q ∧ tk P t = some (true, q.length) := by
  unfold subk at h
  split at h <;> first | (cases h; done) | skip
  rename_i fs hu
  cases hs : P.stoodInHeld t with
  | true => rw [hs] at h; cases h
  | false =>
    rw [hs] at h
    simp only [cond_false] at h
    split at h <;> first | (cases h; done) | skip
    rename_i q' n h1 h2
    cases hb : Nat.beq n q'.length with
    | false => rw [hb] at h; cases h
    | true =>
      rw [hb] at h
      cases h
      rw [Nat.beq_eq] at hb
      exact ⟨fs, hu, rfl, h1, by rw [h2, hb]⟩
theorem eqC_app : ∀ (q r : List CK) (xs ys : List SV) (p : Prop) (b : Bool), eqC (q ++ r) xs ys = some (p, b) → p →
    ∃ p1 b1 p2 b2, eqC q (xs.take q.length) (ys.take q.length) = some (p1, b1) ∧ eqC r (xs.drop q.length) (ys.drop q.length) = some (p2, b2) ∧ p1 ∧ p2 ∧ b = (b1 && b2)
  | [], r, xs, ys, p, b, h, hp => ⟨True, true, p, b, rfl, h, trivial, hp, rfl⟩
  | k :: q, r, [], ys, p, b, h, hp => by simp [eqC] at h
  | k :: q, r, x :: xs, [], p, b, h, hp => by simp [eqC] at h
  | k :: q, r, x :: xs, y :: ys, p, b, h, hp => by
    obtain ⟨p1, b1, p', b', e0, e1, hp1, e2, e3⟩ := and2_some (show and2 (eq1 k x y) (eqC (q ++ r) xs ys) = some (p, b) from h) hp
    obtain ⟨p2, b2, p3, b3, g1, g2, g3, g4, g5⟩ := eqC_app q r xs ys p' b' e1 e2
    refine ⟨p1 ∧ p2, (b1 && b2), p3, b3, ?_, g2, ⟨hp1, g3⟩, g4, by rw [e3, g5, Bool.and_assoc]⟩
    show and2 (eq1 k x y) (eqC q (xs.take q.length) (ys.take q.length)) = _
    rw [e0, g1]
    rfl
theorem eqC_soundN {E : Env} {c c' : Array Value} {d : Nat} : ∀ (fs : List Field) (off : Nat) (ks : List CK) (xs ys : List SV) (p : Prop) (r : Bool), ckFn P off fs = some ks → eqC ks xs ys = some (p, r) → p →
    (∀ i, i < xs.length → off + i < c.size ∧ Rep E (c.getD (off + i) undef) (xs.getD i .any)) → (∀ i, i < ys.length → off + i < c'.size ∧ Rep E (c'.getD (off + i) undef) (ys.getD i .any)) →
    ∃ rs : List Bool, fs.length = rs.length ∧ r = rs.all id ∧ ∀ i (hi : i < fs.length), fs[i].name ≠ "_" ∧ ∃ x y, (part fs[i].type c fs[i].offset).run P w = .ok x w ∧ (part fs[i].type c' fs[i].offset).run P w = .ok y w ∧
      (Op.equalIn (d + 2) fs[i].type x y).run P w = .ok (rs.getD i true) w
  | [], off, ks, xs, ys, p, r, hk, he, hp, h1, h2 => by
    cases hk
    obtain ⟨l1, l2⟩ := eqC_len he hp
    match xs, ys, l1, l2 with
    | [], [], _, _ => cases he; exact ⟨[], rfl, rfl, fun i hi => absurd hi (by simp)⟩
  | f :: fs, off, ks, xs, ys, p, r, hk, he, hp, h1, h2 => by
    unfold ckFn at hk
    cases hn : (f.name != "_" && Nat.beq f.offset off) with
    | false => rw [hn] at hk; cases hk
    | true =>
      rw [hn] at hk
      simp only [cond_true] at hk
      simp only [Bool.and_eq_true, bne_iff_ne, ne_eq, Nat.beq_eq] at hn
      split at hk
      · rename_i k hk1
        split at hk <;> first | (cases hk; done) | skip
        rename_i r' hk2
        cases hk
        obtain ⟨l1, l2⟩ := eqC_len he hp
        match xs, ys, l1, l2 with
        | x :: xs, y :: ys, l1, l2 =>
          have a1 := h1 0 (by simp)
          have a2 := h2 0 (by simp)
          simp only [Nat.add_zero, List.getD_cons_zero] at a1 a2
          obtain ⟨p1, b, p', r'', e0, e1, hp1, e2, e3⟩ := and2_some he hp
          have e4 := eq1_sound (P := P) (w := w) e0 hp1 hk1 a1.2 a2.2 (d + 1)
          obtain ⟨rs, g1, g2, g3⟩ := eqC_soundN fs (off + 1) _ xs ys p' r'' hk2 e1 e2
            (fun i hi => by have := h1 (i + 1) (by simpa using hi); rw [List.getD_cons_succ] at this; rwa [show off + 1 + i = off + (i + 1) by omega])
            (fun i hi => by have := h2 (i + 1) (by simpa using hi); rw [List.getD_cons_succ] at this; rwa [show off + 1 + i = off + (i + 1) by omega])
          refine ⟨b :: rs, by simp [g1], by rw [e3, g2]; rfl, fun i hi => ?_⟩
          match i, hi with
          | 0, _ =>
            refine ⟨hn.1, _, _, ?_, ?_, by simpa using e4⟩
            · simp only [List.getElem_cons_zero]; rw [hn.2]; simpa using run_part_one (ckOf_und hk1) a1.1
            · simp only [List.getElem_cons_zero]; rw [hn.2]; simpa using run_part_one (ckOf_und hk1) a2.1
          | i + 1, hi =>
            have := g3 i (by simpa using hi)
            simpa using this
      · split at hk <;> first | (cases hk; done) | skip
        rename_i q hq
        split at hk <;> first | (cases hk; done) | skip
        rename_i r' hk2
        cases hk
        obtain ⟨fs', hu, hs, hc, htk⟩ := subk_spec hq
        obtain ⟨l1, l2⟩ := eqC_len he hp
        rw [List.length_append] at l1 l2
        obtain ⟨p1, b1, p2, b2, e1, e2, hp1, hp2, e3⟩ := eqC_app q r' xs ys p r he hp
        have ex : ∀ (c : Array Value) (zs : List SV), zs.length = q.length + r'.length → (∀ i, i < zs.length → off + i < c.size ∧ Rep E (c.getD (off + i) undef) (zs.getD i .any)) →
            ∀ i, i < (zs.take q.length).length → 0 + i < (c.extract off (off + q.length)).size ∧ Rep E ((c.extract off (off + q.length)).getD (0 + i) undef) ((zs.take q.length).getD i .any) := by
          intro c zs hz h i hi
          rw [List.length_take] at hi
          have hl := (h (q.length + r'.length - 1) (by omega)).1
          have a := h i (by omega)
          rw [Nat.zero_add]
          refine ⟨by simp; omega, ?_⟩
          rw [List.getD_eq_getElem?_getD, List.getElem?_take_of_lt (by omega), ← List.getD_eq_getElem?_getD]
          rw [Array.getD_eq_getD_getElem?, Array.getElem?_extract, if_pos (by omega), ← Array.getD_eq_getD_getElem?]
          exact a.2
        obtain ⟨rs', g1', g2', g3'⟩ := eqC_sound (P := P) (w := w) (E := E) (d := d) fs'.toList 0 q _ _ p1 b1 hc e1 hp1 (ex c xs l1 h1) (ex c' ys l2 h2)
        have e4 := run_equal_struct (P := P) (w := w) (d := d + 1) hu hs (c.extract off (off + q.length)) (c'.extract off (off + q.length)) rs' g1' g3'
        have dr : ∀ (c : Array Value) (zs : List SV), (∀ i, i < zs.length → off + i < c.size ∧ Rep E (c.getD (off + i) undef) (zs.getD i .any)) →
            ∀ i, i < (zs.drop q.length).length → off + q.length + i < c.size ∧ Rep E (c.getD (off + q.length + i) undef) ((zs.drop q.length).getD i .any) := by
          intro c zs h i hi
          rw [List.length_drop] at hi
          have a := h (q.length + i) (by omega)
          rw [List.getD_eq_getElem?_getD, List.getElem?_drop, ← List.getD_eq_getElem?_getD, Nat.add_assoc]
          exact a
        obtain ⟨rs, g1, g2, g3⟩ := eqC_soundN fs (off + q.length) _ _ _ p2 b2 hk2 e2 hp2 (dr c xs h1) (dr c' ys h2)
        refine ⟨b1 :: rs, by simp [g1], by rw [e3, g2]; rfl, fun i hi => ?_⟩
        match i, hi with
        | 0, _ =>
          refine ⟨hn.1, .agg (c.extract off (off + q.length)), .agg (c'.extract off (off + q.length)), ?_, ?_, ?_⟩
          · simp only [List.getElem_cons_zero]; rw [hn.2]; simp [part, run_isAgg htk, run_sizeOf htk]
          · simp only [List.getElem_cons_zero]; rw [hn.2]; simp [part, run_isAgg htk, run_sizeOf htk]
          · rw [← g2'] at e4; simpa using e4
        | i + 1, hi =>
          have := g3 i (by simpa using hi)
          simpa using this
theorem run_equal_agg {E : Env} {t : TypeId} {ks : List CK} (hk : eqk P t = some ks) {c c' : Array Value} {xs ys : List SV} {p : Prop} {r : Bool} (he : eqC ks xs ys = some (p, r)) (hp : p)
    (h1 : c.size = xs.length ∧ ∀ i, i < xs.length → Rep E (c.getD i undef) (xs.getD i .any)) (h2 : c'.size = ys.length ∧ ∀ i, i < ys.length → Rep E (c'.getD i undef) (ys.getD i .any)) (op : BinOp) (ho : op = .eql ∨ op = .neq) (ox oy : Operand) :
    (Op.equal t (.agg c) (.agg c')).run P w = .ok r w ∧ (eqGuard op t ox oy (.agg c) (.agg c')).run P w = .ok () w := by
  unfold eqk at hk
  split at hk <;> first | (cases hk; done) | skip
  rename_i fs hu
  cases hb : (P.stoodInHeld t || P.eqGuardType P.depth t) with
  | true => rw [hb] at hk; cases hk
  | false =>
    rw [hb] at hk
    simp only [cond_false] at hk
    rw [Bool.or_eq_false_iff] at hb
    obtain ⟨rs, g1, g2, g3⟩ := eqC_soundN (P := P) (w := w) (E := E) (d := 9997) fs.toList 0 ks xs ys p r hk he hp
      (fun i hi => by rw [Nat.zero_add]; exact ⟨by omega, h1.2 i hi⟩) (fun i hi => by rw [Nat.zero_add]; exact ⟨by omega, h2.2 i hi⟩)
    refine ⟨?_, ?_⟩
    · rw [g2]
      exact run_equal_struct (d := 9999) hu hb.1 c c' rs g1 g3
    · rcases ho with rfl | rfl <;> simp [eqGuard, hb.2]
theorem isIf_spec {t : TypeId} (h : isIf P t = true) : ∃ ms, P.underlying t = some (.interface ms) := by
  unfold isIf at h
  split at h
  · exact ⟨_, by assumption⟩
  · cases h
theorem binOp_eql_aa (t : TypeId) (a b : Array Value) : binOp .eql t (.agg a) (.agg b) = (do pure (.bool (← Op.equal t (.agg a) (.agg b)))) := rfl
theorem binOp_neq_aa (t : TypeId) (a b : Array Value) : binOp .neq t (.agg a) (.agg b) = (do pure (.bool (!(← Op.equal t (.agg a) (.agg b))))) := rfl
theorem binOp_eql_nn (t : TypeId) : binOp .eql t .nilIface .nilIface = (do pure (.bool (← Op.equal t .nilIface .nilIface))) := rfl
theorem binOp_neq_nn (t : TypeId) : binOp .neq t .nilIface .nilIface = (do pure (.bool (!(← Op.equal t .nilIface .nilIface)))) := rfl
theorem binOp_eql_ni (t a : TypeId) (v : Value) : binOp .eql t .nilIface (.iface a v) = (do pure (.bool (← Op.equal t .nilIface (.iface a v)))) := rfl
theorem binOp_neq_ni (t a : TypeId) (v : Value) : binOp .neq t .nilIface (.iface a v) = (do pure (.bool (!(← Op.equal t .nilIface (.iface a v))))) := rfl
theorem binOp_eql_in (t a : TypeId) (v : Value) : binOp .eql t (.iface a v) .nilIface = (do pure (.bool (← Op.equal t (.iface a v) .nilIface))) := rfl
theorem binOp_neq_in (t a : TypeId) (v : Value) : binOp .neq t (.iface a v) .nilIface = (do pure (.bool (!(← Op.equal t (.iface a v) .nilIface)))) := rfl
theorem run_equalIn_nn {t : TypeId} {ms : Array (String × TypeId)} (hu : P.underlying t = some (.interface ms)) (d : Nat) : (Op.equalIn (d + 1) t .nilIface .nilIface).run P w = .ok true w := by simp [Op.equalIn, run_underlying hu]
theorem run_equalIn_ni {t a : TypeId} {v : Value} {ms : Array (String × TypeId)} (hu : P.underlying t = some (.interface ms)) (d : Nat) : (Op.equalIn (d + 1) t .nilIface (.iface a v)).run P w = .ok false w := by simp [Op.equalIn, run_underlying hu]
theorem run_equalIn_in {t a : TypeId} {v : Value} {ms : Array (String × TypeId)} (hu : P.underlying t = some (.interface ms)) (d : Nat) : (Op.equalIn (d + 1) t (.iface a v) .nilIface).run P w = .ok false w := by simp [Op.equalIn, run_underlying hu]
theorem run_equal_nn {t : TypeId} {ms : Array (String × TypeId)} (hu : P.underlying t = some (.interface ms)) : (Op.equal t .nilIface .nilIface).run P w = .ok true w := run_equalIn_nn hu 9999
theorem run_equal_ni {t a : TypeId} {v : Value} {ms : Array (String × TypeId)} (hu : P.underlying t = some (.interface ms)) : (Op.equal t .nilIface (.iface a v)).run P w = .ok false w := run_equalIn_ni hu 9999
theorem run_equal_in {t a : TypeId} {v : Value} {ms : Array (String × TypeId)} (hu : P.underlying t = some (.interface ms)) : (Op.equal t (.iface a v) .nilIface).run P w = .ok false w := run_equalIn_in hu 9999
theorem run_guard_nn {op : BinOp} {t : TypeId} {ox oy : Operand} (h : (isC ox || isC oy) = true) : (eqGuard op t ox oy .nilIface .nilIface).run P w = .ok () w := by
  cases ox <;> cases oy <;> first | (simp [isC] at h; done) | (cases op <;> simp [eqGuard])
theorem run_guard_ni {op : BinOp} {t a : TypeId} {v : Value} {ox oy : Operand} : (eqGuard op t ox oy .nilIface (.iface a v)).run P w = .ok () w := by
  cases op <;> simp [eqGuard]
theorem run_guard_in {op : BinOp} {t a : TypeId} {v : Value} {ox oy : Operand} : (eqGuard op t ox oy (.iface a v) .nilIface).run P w = .ok () w := by
  cases op <;> simp [eqGuard]
theorem binOp_eql_sl (t : TypeId) (a a' : Option Addr) (n c n' c' : Nat) : binOp .eql t (.slice a n c) (.slice a' n' c') = (do pure (.bool (← Op.equal t (.slice a n c) (.slice a' n' c')))) := rfl
theorem binOp_neq_sl (t : TypeId) (a a' : Option Addr) (n c n' c' : Nat) : binOp .neq t (.slice a n c) (.slice a' n' c') = (do pure (.bool (!(← Op.equal t (.slice a n c) (.slice a' n' c'))))) := rfl
theorem isSl_spec {t : TypeId} (h : isSl P t = true) : ∃ e, P.underlying t = some (.slice e) := by
  unfold isSl at h
  split at h
  · exact ⟨_, by assumption⟩
  · cases h
theorem run_equal_sl {t : TypeId} (h : isSl P t = true) (a : Option Addr) (n c n' c' : Nat) : (Op.equal t (.slice a n c) (.slice none n' c')).run P w = .ok a.isNone w := by
  obtain ⟨e, he⟩ := isSl_spec h
  exact Lib.run_equalIn_slice_nil w 9999 t e a n c n' c' he
theorem run_guard_sl {op : BinOp} {t : TypeId} {ox oy : Operand} (a a' : Option Addr) (n c n' c' : Nat) : (eqGuard op t ox oy (.slice a n c) (.slice a' n' c')).run P w = .ok () w := by
  cases op <;> simp [eqGuard]
theorem bin_sound [Gl] {op : BinOp} {t : TypeId} {ox oy : Operand} {u u' : Value} {x y v : SV} {pre : Prop} (hx : Rep (envOf (hid M h) w) u x) (hy : Rep (envOf (hid M h) w) u' y)
    (hv : binSV P op t (isC ox || isC oy) x y = .ok pre v) (hp : pre) : ∃ r, (do eqGuard op t ox oy u u'; binOp op t u u' : Sem Value).run P w = .ok r w ∧ Rep (envOf (hid M h) w) r v := by
  unfold binSV at hv
  split at hv
  · rename_i k a k' b
    cases hx; cases hy
    cases op <;> simp only [binII, VRes.ok.injEq] at hv <;> obtain ⟨rfl, rfl⟩ := hv
    case add => subst hp; exact ⟨_, by simp [eqGuard_at_int, binOp_add, Op.intArith], .sc _⟩
    case sub => subst hp; exact ⟨_, by simp [eqGuard_at_int, binOp_sub, Op.intArith], .sc _⟩
    case mul => subst hp; exact ⟨_, by simp [eqGuard_at_int, binOp_mul, Op.intArith], .sc _⟩
    case quo => obtain ⟨rfl, hb⟩ := hp; exact ⟨_, by simp [eqGuard_at_int, binOp_quo, Op.intDiv, hb], .sc _⟩
    case rem => obtain ⟨rfl, hb⟩ := hp; exact ⟨_, by simp [eqGuard_at_int, binOp_rem, Op.intDiv, hb], .sc _⟩
    case and => subst hp; exact ⟨_, by simp [eqGuard_at_int, binOp_and, intBits_and], .sc _⟩
    case or => subst hp; exact ⟨_, by simp [eqGuard_at_int, binOp_or, intBits_or], .sc _⟩
    case xor => subst hp; exact ⟨_, by simp [eqGuard_at_int, binOp_xor, intBits_xor], .sc _⟩
    case andNot => subst hp; exact ⟨_, by simp [eqGuard_at_int, binOp_andNot, intBits_andNot], .sc _⟩
    case eql => subst hp; exact ⟨_, by simp [eqGuard_at_int, binOp_eql]; rfl, by exact .sc _⟩
    case neq => subst hp; exact ⟨_, by simp [eqGuard_at_int, binOp_neq]; rfl, by exact .sc _⟩
    case lss => subst hp; exact ⟨_, by simp [eqGuard_at_int, binOp_lss], .sc _⟩
    case leq => subst hp; exact ⟨_, by simp [eqGuard_at_int, binOp_leq], .sc _⟩
    case gtr => subst hp; exact ⟨_, by simp [eqGuard_at_int, binOp_gtr], .sc _⟩
    case geq => subst hp; exact ⟨_, by simp [eqGuard_at_int, binOp_geq], .sc _⟩
    case shl => exact ⟨_, by simp [eqGuard_at_int, binOp_shl, Op.shift, Int.not_lt.2 hp], .sc _⟩
    case shr => exact ⟨_, by simp [eqGuard_at_int, binOp_shr, Op.shift, Int.not_lt.2 hp], .sc _⟩
  · rename_i a b
    cases hx; cases hy
    cases op <;> simp only [binSS] at hv <;> first | (cases hv; done) | (simp only [VRes.ok.injEq] at hv; obtain ⟨rfl, rfl⟩ := hv)
    case add =>
      have : ¬ (((a.size + b.size : Nat) : Int) > IntKind.i64.max) := by rw [IntKind.max_i64]; omega
      exact ⟨_, by simp only [Sem.run_bind, eqGuard_at_string, Sem.run_pure, Result.andThen_ok, binOp_str_add, Op.stringOp, if_neg this], .sc _⟩
    case eql => exact ⟨_, by simp only [Sem.run_bind, eqGuard_at_string, Sem.run_pure, Result.andThen_ok, binOp_str_eql, Op.stringOp], .sc _⟩
    case neq => exact ⟨_, by simp only [Sem.run_bind, eqGuard_at_string, Sem.run_pure, Result.andThen_ok, binOp_str_neq, Op.stringOp], .sc _⟩
    case lss => exact ⟨_, by simp only [Sem.run_bind, eqGuard_at_string, Sem.run_pure, Result.andThen_ok, binOp_str_lss, Op.stringOp], .sc _⟩
    case leq => exact ⟨_, by simp only [Sem.run_bind, eqGuard_at_string, Sem.run_pure, Result.andThen_ok, binOp_str_leq, Op.stringOp], .sc _⟩
    case gtr => exact ⟨_, by simp only [Sem.run_bind, eqGuard_at_string, Sem.run_pure, Result.andThen_ok, binOp_str_gtr, Op.stringOp], .sc _⟩
    case geq => exact ⟨_, by simp only [Sem.run_bind, eqGuard_at_string, Sem.run_pure, Result.andThen_ok, binOp_str_geq, Op.stringOp], .sc _⟩
  · rename_i a b
    cases hx; cases hy
    have hu : isBool P t = true → P.underlying t = some .bool := fun hb => by
      unfold isBool at hb
      split at hb
      · assumption
      · cases hb
    cases op <;> simp only [binBB] at hv <;> first | (cases hv; done) | (simp only [VRes.ok.injEq] at hv; obtain ⟨rfl, rfl⟩ := hv)
    · refine ⟨.bool (a == b), ?_, .sc _⟩
      simp only [Sem.run_bind, eqGuard_at_bool, Sem.run_pure, Result.andThen_ok, binOp_eql_bool, run_equal_bool (hu hp)]
    · refine ⟨.bool (!(a == b)), ?_, .sc _⟩
      simp only [Sem.run_bind, eqGuard_at_bool, Sem.run_pure, Result.andThen_ok, binOp_neq_bool, run_equal_bool (hu hp)]
  · rename_i xs ys
    cases hx with
    | agg c1 _ l1 r1 =>
    cases hy with
    | agg c2 _ l2 r2 =>
    cases op <;> simp only [binAA] at hv <;> first | (cases hv; done) | skip
    all_goals
      cases hk : eqk P t with
      | none => rw [hk] at hv; cases hv
      | some ks =>
        rw [hk] at hv
        simp only at hv
        split at hv <;> first | (cases hv; done) | skip
        rename_i p r he
        cases hv
        first
          | (obtain ⟨e1, e2⟩ := run_equal_agg (P := P) (w := w) hk he hp ⟨l1, r1⟩ ⟨l2, r2⟩ .eql (.inl rfl) ox oy
             exact ⟨.bool r, by simp only [Sem.run_bind, e2, Result.andThen_ok, binOp_eql_aa, binOp_neq_aa, e1, Sem.run_pure], .sc _⟩)
          | (obtain ⟨e1, e2⟩ := run_equal_agg (P := P) (w := w) hk he hp ⟨l1, r1⟩ ⟨l2, r2⟩ .neq (.inr rfl) ox oy
             exact ⟨.bool (!r), by simp only [Sem.run_bind, e2, Result.andThen_ok, binOp_eql_aa, binOp_neq_aa, e1, Sem.run_pure], .sc _⟩)
  · cases hx; cases hy
    cases op <;> simp only [binNil] at hv <;> first | (cases hv; done) | skip
    all_goals
      cases hv
      obtain ⟨ms, hu⟩ := isIf_spec hp.1
      first
        | exact ⟨.bool true, by simp only [Sem.run_bind, run_guard_nn hp.2, Result.andThen_ok, binOp_eql_nn, run_equal_nn hu, Sem.run_pure], .sc _⟩
        | exact ⟨.bool (!true), by simp only [Sem.run_bind, run_guard_nn hp.2, Result.andThen_ok, binOp_neq_nn, run_equal_nn hu, Sem.run_pure], .sc _⟩
  · cases hx; cases hy
    cases op <;> simp only [binNil] at hv <;> first | (cases hv; done) | skip
    all_goals
      cases hv
      obtain ⟨ms, hu⟩ := isIf_spec hp.1
      first
        | exact ⟨.bool false, by simp only [Sem.run_bind, run_guard_ni, Result.andThen_ok, binOp_eql_ni, run_equal_ni hu, Sem.run_pure], .sc _⟩
        | exact ⟨.bool (!false), by simp only [Sem.run_bind, run_guard_ni, Result.andThen_ok, binOp_neq_ni, run_equal_ni hu, Sem.run_pure], .sc _⟩
  · cases hx; cases hy
    cases op <;> simp only [binNil] at hv <;> first | (cases hv; done) | skip
    all_goals
      cases hv
      obtain ⟨ms, hu⟩ := isIf_spec hp.1
      first
        | exact ⟨.bool false, by simp only [Sem.run_bind, run_guard_in, Result.andThen_ok, binOp_eql_in, run_equal_in hu, Sem.run_pure], .sc _⟩
        | exact ⟨.bool (!false), by simp only [Sem.run_bind, run_guard_in, Result.andThen_ok, binOp_neq_in, run_equal_in hu, Sem.run_pure], .sc _⟩
  · cases hx; cases hy
    cases op <;> simp only [binSl] at hv <;> first | (cases hv; done) | skip
    all_goals
      cases hv
      first
        | exact ⟨.bool true, by simp only [Sem.run_bind, run_guard_sl, Result.andThen_ok, binOp_eql_sl, run_equal_sl hp, Sem.run_pure, Option.isNone_none], .sc _⟩
        | exact ⟨.bool (!true), by simp only [Sem.run_bind, run_guard_sl, Result.andThen_ok, binOp_neq_sl, run_equal_sl hp, Sem.run_pure, Option.isNone_none], .sc _⟩
  · cases hx; cases hy
    cases op <;> simp only [binSl] at hv <;> first | (cases hv; done) | skip
    all_goals
      cases hv
      first
        | exact ⟨.bool false, by simp only [Sem.run_bind, run_guard_sl, Result.andThen_ok, binOp_eql_sl, run_equal_sl hp, Sem.run_pure, Option.isNone_some], .sc _⟩
        | exact ⟨.bool (!false), by simp only [Sem.run_bind, run_guard_sl, Result.andThen_ok, binOp_neq_sl, run_equal_sl hp, Sem.run_pure, Option.isNone_some], .sc _⟩
  · cases hv
theorem un_sound {op : UnOp} {u : Value} {x v : SV} {pre : Prop} (hx : Rep (envOf (hid M h) w) u x)
    (hv : unSV op x = .ok pre v) : ∃ r, (Op.unary op u).run P w = .ok r w ∧ Rep (envOf (hid M h) w) r v := by
  unfold unSV at hv
  split at hv
  · cases hx; cases hv; exact ⟨_, by simp [Op.unary, Op.intArith], .sc _⟩
  · cases hx; cases hv; exact ⟨_, by simp [Op.unary], .sc _⟩
  · cases hx; cases hv; exact ⟨_, by simp [Op.unary, intBits_xor], .sc _⟩
  · cases hv
theorem isStr_spec {t : TypeId} (hs : isStr P t = true) : P.underlying t = some .string := by
  unfold isStr at hs
  split at hs
  · assumption
  · cases hs
theorem index_sound [Gl] {t : TypeId} {u u' : Value} {x i v : SV} {pre : Prop} (hx : Rep (envOf (hid M h) w) u x) (hi : Rep (envOf (hid M h) w) u' i)
    (hv : indexSV (isStr P t) (arn P t) x i = .ok pre v) (hp : pre) : ∃ r, (Instr.index t u u').run P w = .ok r w ∧ Rep (envOf (hid M h) w) r v := by
  unfold indexSV at hv
  split at hv
  · rename_i s k n
    cases hv
    obtain ⟨hs, h0, h1⟩ := hp
    cases hx; cases hi
    have hlt : n.toNat < s.size := by omega
    refine ⟨.int .u8 (s.data.toList.getD n.toNat 0).toNat, ?_, .sc _⟩
    have he : s[n.toNat]? = some (s.data.toList.getD n.toNat 0) := by
      rw [getElem?_pos s n.toNat hlt, List.getD_eq_getElem?_getD, Array.getElem?_toList, Array.getElem?_eq_getElem (by simpa using hlt)]
      rfl
    simp [Instr.index, asIntOf, run_underlying (isStr_spec hs), h0, he]
  · rename_i cs k n
    unfold indexAr at hv
    split at hv
    · rename_i len s hA
      cases hv
      obtain ⟨h0, h1, h2⟩ := hp
      obtain ⟨e, hu, hk⟩ := arn_spec hA
      cases hi
      cases hx with
      | agg c _ hl hr =>
        refine ⟨.agg (c.extract (n.toNat * s) (n.toNat * s + s)), by simp [Instr.index, asIntOf, run_underlying hu, h0, h1, part, run_isAgg hk, run_sizeOf hk], ?_⟩
        have hlen : ((cs.drop (n.toNat * s)).take s).length = s := by simp; omega
        refine .agg _ _ (by rw [hlen]; simp; omega) (fun j hj => ?_)
        rw [hlen] at hj
        have := hr (n.toNat * s + j) (by omega)
        rw [List.getD_eq_getElem?_getD] at this ⊢
        rw [List.getElem?_take_of_lt hj, List.getElem?_drop]
        rw [Array.getD_eq_getD_getElem?] at this ⊢
        rwa [Array.getElem?_extract, if_pos (by omega)]
    · rename_i len s hA
      cases hv
      obtain ⟨h0, h1, h2⟩ := hp
      obtain ⟨e, hu, hk⟩ := arn_spec hA
      cases hi
      cases hx with
      | agg c _ hl hr =>
        have hlt : n.toNat * s < c.size := by omega
        refine ⟨c[n.toNat * s], by simp [Instr.index, asIntOf, run_underlying hu, h0, h1, part, run_isAgg hk, run_sizeOf hk, hlt], ?_⟩
        have := hr _ h2
        simpa [hlt] using this
    · cases hv
  · cases hv
theorem len_sound [Gl] {t ty : TypeId} {u : Value} {x v : SV} {pre : Prop} (hx : Rep (envOf (hid M h) w) u x)
    (hv : lenSV (isStr P t) (slk P t) (ark P t) x = .ok pre v) (hp : pre) : ∃ r, (Builtin.len_ #[t] ty #[u]).run P w = .ok r w ∧ Rep (envOf (hid M h) w) r v := by
  have arr : ∀ {pre : Prop} {v : SV}, (match ark P t with | some (n, _) => VRes.ok True (.sc (.int .i64 n)) | none => .bad) = .ok pre v → ∃ r, (Builtin.len_ #[t] ty #[u]).run P w = .ok r w ∧ Rep (envOf (hid M h) w) r v := by
    intro pre v hv
    split at hv
    · rename_i n s hA
      cases hv
      obtain ⟨e, i, hu, hin, rfl⟩ := ark_spec hA
      exact ⟨_, by simp [Builtin.len_, run_underlying hu, goInt], .sc _⟩
    · cases hv
  unfold lenSV at hv
  split at hv
  · split at hv
    · rename_i L hL
      obtain ⟨e, s, bb⟩ := L
      cases hv
      obtain ⟨i, hu, hin, rfl, rfl⟩ := slk_spec hL
      cases hx <;> exact ⟨_, by simp [Builtin.len_, run_underlying hu, goInt], .sc _⟩
    · cases hv
  · split at hv
    · rename_i L hL
      obtain ⟨e, s, bb⟩ := L
      cases hv
      obtain ⟨i, hu, hin, rfl, rfl⟩ := slk_spec hL
      cases hx; exact ⟨_, by simp [Builtin.len_, run_underlying hu, goInt], .sc _⟩
    · cases hv
  · split at hv
    · rename_i L hL
      obtain ⟨e, s, bb⟩ := L
      cases hv
      obtain ⟨i, hu, hin, rfl, rfl⟩ := slk_spec hL
      cases hx; exact ⟨_, by simp [Builtin.len_, run_underlying hu, goInt], .sc _⟩
    · cases hv
  · split at hv
    · rename_i L hL
      obtain ⟨e, s, bb⟩ := L
      cases hv
      obtain ⟨i, hu, hin, rfl, rfl⟩ := slk_spec hL
      cases hx; exact ⟨_, by simp [Builtin.len_, run_underlying hu, goInt], .sc _⟩
    · cases hv
  · split at hv
    · rename_i L hL
      obtain ⟨e, s, bb⟩ := L
      cases hv
      obtain ⟨i, hu, hin, rfl, rfl⟩ := slk_spec hL
      cases hx; exact ⟨_, by simp [Builtin.len_, run_underlying hu, goInt], .sc _⟩
    · cases hv
  · cases hv
    cases hx
    exact ⟨_, by simp [Builtin.len_, run_underlying (isStr_spec hp), goInt], .sc _⟩
  · exact arr hv
end
end Go.Ab
/-! Ae: Slices, conversions, and the operations that make a block. -/
namespace Go.Ab
open Go.RowKit
section
variable {P : Program} {M : Nat → Prop} {h : Heap} {w : World}
def ORep (E : Env) : Option Value → Option SV → Prop
  | none, none => True
  | some v, some s => Rep E v s
  | _, _ => False
theorem sliceBounds_run {E : Env} {isS : Bool} {len cap : Nat} {lo hi : Option Value} {slo shi : Option SV} {l r : Int} (hlo : ORep E lo slo) (hhi : ORep E hi shi)
    (bl : bnd slo 0 = some l) (br : bnd shi len = some r) (h0 : 0 ≤ l) (h1 : l ≤ r) (h2 : r ≤ len) (h3 : len ≤ cap) :
    (Instr.sliceBounds isS len cap lo hi none).run P w = .ok (l.toNat, r.toNat, cap) w := by
  have hiv : (match hi with | some v => Instr.sliceBound v cap (if isS then .sliceAcap else .sliceAlen) | none => pure len : Sem Nat).run P w = .ok r.toNat w := by
    cases hi with
    | none =>
      cases shi with
      | none => simp [bnd] at br; subst br; simp
      | some _ => exact hhi.elim
    | some v =>
      cases shi with
      | none => exact hhi.elim
      | some s =>
        unfold bnd at br
        split at br
        · rename_i hh; cases hh
        · rename_i k n hh
          cases hh; cases br; cases hhi
          simp [Instr.sliceBound, asIntOf, show 0 ≤ r ∧ r ≤ (cap : Int) by omega]
        · cases br
  have lov : ∀ code, (match lo with | some v => Instr.sliceBound v r.toNat code | none => pure 0 : Sem Nat).run P w = .ok l.toNat w := fun code => by
    cases lo with
    | none =>
      cases slo with
      | none => simp [bnd] at bl; subst bl; simp
      | some _ => exact hlo.elim
    | some v =>
      cases slo with
      | none => exact hlo.elim
      | some s =>
        unfold bnd at bl
        split at bl
        · rename_i hh; cases hh
        · rename_i k n hh
          cases hh; cases bl; cases hlo
          simp [Instr.sliceBound, asIntOf, show 0 ≤ l ∧ l ≤ max r 0 by omega]
        · cases bl
  unfold Instr.sliceBounds
  cases hi with
  | none =>
    simp only [Sem.run_pure] at hiv
    simp only [Sem.run_bind, Sem.run_pure, Result.andThen_ok]
    cases hiv
    cases lo with
    | none => simpa using lov .sliceB
    | some v =>
      have := lov .sliceB
      simp only at this
      simp [this]
  | some v =>
    simp only at hiv
    simp only [Sem.run_bind, Sem.run_pure, Result.andThen_ok, hiv]
    cases lo with
    | none => simpa using lov .sliceB
    | some v =>
      have := lov .sliceB
      simp only at this
      simp [this]
theorem slice_sound [Gl] {t : TypeId} {u : Value} {x v : SV} {lo hi : Option Value} {slo shi : Option SV} {pre : Prop} (hx : Rep (envOf (hid M h) w) u x)
    (hlo : ORep (envOf (hid M h) w) lo slo) (hhi : ORep (envOf (hid M h) w) hi shi)
    (hv : sliceSV (isStr P t) (slk P t) x slo shi none = .ok pre v) (hp : pre) : ∃ r, (Instr.sliceAt t u lo hi none).run P w = .ok r w ∧ Rep (envOf (hid M h) w) r v := by
  unfold sliceSV at hv
  simp only at hv
  split at hv
  · rename_i s
    split at hv
    · rename_i l r bl br
      cases hv
      obtain ⟨hs, h0, h1, h2⟩ := hp
      cases hx
      refine ⟨.string (s.extract l.toNat r.toNat), ?_, .sc _⟩
      simp [Instr.sliceAt, Instr.slice, run_underlying (isStr_spec hs), sliceBounds_run hlo hhi bl br h0 h1 h2 (Nat.le_refl _)]
    · cases hv
  · split at hv
    · rename_i q l r hL bl br
      obtain ⟨q1, q2, q3⟩ := q
      cases hv
      obtain ⟨h0, h1, h2⟩ := hp
      obtain ⟨i, hu, hin, hs, rfl⟩ := slk_spec hL
      cases hx
      have hl : l = 0 := by omega
      have hr : r = 0 := by omega
      subst hl; subst hr
      refine ⟨.slice none 0 0, ?_, .sc _⟩
      simp [Instr.sliceAt, Instr.slice, run_underlying hu, sliceBounds_run (isS := true) (len := 0) (cap := 0) hlo hhi bl br h0 h1 h2 (Nat.le_refl _), run_sizeOf_info hin]
    · cases hv
  · rename_i n sz f
    split at hv
    · rename_i q s bb l r hL bl br
      cases hv
      obtain ⟨rfl, h0, h1, h2⟩ := hp
      obtain ⟨i, hu, hin, hs, rfl⟩ := slk_spec hL
      cases hx with
      | fl0 a cap _ f =>
        have hl : l = 0 := by omega
        have hr : r = 0 := by omega
        subst hl; subst hr
        refine ⟨_, by simp [Instr.sliceAt, Instr.slice, run_underlying hu, sliceBounds_run (isS := true) hlo hhi bl br h0 h1 h2 (Nat.zero_le cap), run_sizeOf_info hin]; rfl, ?_⟩
        exact .fl0 _ _ _ _
      | fl b off _ cap _ _ val hc hl hsee hr =>
        by_cases hm : cap = l.toNat
        · have e0 : (r - l).toNat = 0 := by omega
          have hbd := sliceBounds_run (P := P) (w := w) (isS := true) hlo hhi bl br h0 h1 h2 hc
          refine ⟨.slice (some ⟨b, off, none⟩) 0 (cap - l.toNat), ?_, ?_⟩
          · simp only [Instr.sliceAt, Instr.slice, Sem.run_bind, run_underlying hu, Result.andThen_ok, hbd, run_sizeOf_info hin, Sem.run_pure, if_pos hm]
            rw [show r.toNat - l.toNat = 0 by omega]
          rw [e0]
          exact .fl0 _ _ _ _
        · have e1 : r.toNat - l.toNat = (r - l).toNat := by omega
          refine ⟨.slice (some ⟨b, off + l.toNat * sz, none⟩) (r - l).toNat (cap - l.toNat), by simp [Instr.sliceAt, Instr.slice, run_underlying hu, sliceBounds_run (isS := true) hlo hhi bl br h0 h1 h2 hc, run_sizeOf_info hin, hm, hs, Addr.add_lit, e1], ?_⟩
          refine .fl b _ _ _ _ _ (fun i j => val (l.toNat + i) j) (by omega) (fun i hi => hl _ (by omega)) (fun i hi j hj => ?_) (fun i hi j hj => hr _ (by omega) j hj)
          have := hsee (l.toNat + i) (by omega) j hj
          rwa [Nat.add_mul, ← Nat.add_assoc] at this
    · cases hv
  · rename_i b off n sz
    split at hv
    · rename_i q s bb l r hL bl br
      cases hv
      obtain ⟨rfl, h0, h1, h2, h3⟩ := hp
      obtain ⟨i, hu, hin, hs, rfl⟩ := slk_spec hL
      cases hx with
      | os _ _ _ cap _ m hc hm hb =>
        have e1 : r.toNat - l.toNat = (r - l).toNat := by omega
        have hrun : (Instr.sliceAt t (.slice (some ⟨b, off, none⟩) n cap) lo hi none).run P w = .ok (.slice (some ⟨b, off + l.toNat * sz, none⟩) (r - l).toNat (cap - l.toNat)) w := by
          by_cases hml : cap = l.toNat
          · have hl0 : l = 0 := by omega
            have hbd := sliceBounds_run (P := P) (w := w) (isS := true) hlo hhi bl br h0 h1 h2 hc
            simp only [Instr.sliceAt, Instr.slice, Sem.run_bind, run_underlying hu, Result.andThen_ok, hbd, run_sizeOf_info hin, Sem.run_pure, if_pos hml]
            rw [hl0]
            simp
          · simp [Instr.sliceAt, Instr.slice, run_underlying hu, sliceBounds_run (isS := true) hlo hhi bl br h0 h1 h2 hc, run_sizeOf_info hin, hml, hs, Addr.add_lit, e1]
        refine ⟨_, hrun, .os b _ _ _ _ m (by omega) hm ?_⟩
        have : l.toNat * sz + (cap - l.toNat) * sz = cap * sz := by rw [← Nat.add_mul]; congr 1; omega
        omega
    · cases hv
  · cases hv
theorem bnd_some {E : Env} {v : Value} {s : SV} {d : Nat} {r : Int} (h : Rep E v s) (hb : bnd (some s) d = some r) : ∃ k, v = .int k r := by
  unfold bnd at hb
  split at hb
  · rename_i hh; cases hh
  · rename_i k n hh
    cases hh; cases hb; cases h
    exact ⟨k, rfl⟩
  · cases hb
theorem sliceBounds3_run [Gl] {E : Env} {isS : Bool} {len cap d1 d2 : Nat} {lo : Option Value} {slo : Option SV} {hi mx : Value} {shi smx : SV} {l r m : Int} (hlo : ORep E lo slo) (hhi : Rep E hi shi) (hmx : Rep E mx smx)
    (bl : bnd slo 0 = some l) (br : bnd (some shi) d1 = some r) (bm : bnd (some smx) d2 = some m) (h0 : 0 ≤ l) (h1 : l ≤ r) (h2 : r ≤ m) (h4 : m ≤ cap) :
    (Instr.sliceBounds isS len cap lo (some hi) (some mx)).run P w = .ok (l.toNat, r.toNat, m.toNat) w := by
  obtain ⟨k1, rfl⟩ := bnd_some hhi br
  obtain ⟨k2, rfl⟩ := bnd_some hmx bm
  have hM : ∀ code, (Instr.sliceBound (.int k2 m) cap code).run P w = .ok m.toNat w := fun code => by simp [Instr.sliceBound, asIntOf, show 0 ≤ m ∧ m ≤ (cap : Int) by omega]
  have hH : ∀ code, (Instr.sliceBound (.int k1 r) m.toNat code).run P w = .ok r.toNat w := fun code => by simp [Instr.sliceBound, asIntOf, show 0 ≤ r ∧ r ≤ max m 0 by omega]
  unfold Instr.sliceBounds
  simp only [Sem.run_bind, hM, hH, Result.andThen_ok]
  cases lo with
  | none =>
    cases slo with
    | none => simp [bnd] at bl; subst bl; simp
    | some _ => exact hlo.elim
  | some v =>
    cases slo with
    | none => exact hlo.elim
    | some s =>
      obtain ⟨k3, rfl⟩ := bnd_some hlo bl
      have hL : ∀ code, (Instr.sliceBound (.int k3 l) r.toNat code).run P w = .ok l.toNat w := fun code => by simp [Instr.sliceBound, asIntOf, show 0 ≤ l ∧ l ≤ max r 0 by omega]
      simp [hL]
theorem slice3_sound [Gl] {t : TypeId} {u : Value} {x v : SV} {lo hi : Option Value} {slo shi : Option SV} {mx : Value} {smx : SV} {pre : Prop} (hx : Rep (envOf (hid M h) w) u x)
    (hlo : ORep (envOf (hid M h) w) lo slo) (hhi : ORep (envOf (hid M h) w) hi shi) (hmx : Rep (envOf (hid M h) w) mx smx)
    (hv : sliceSV (isStr P t) (slk P t) x slo shi (some smx) = .ok pre v) (hp : pre) : ∃ r, (Instr.sliceAt t u lo hi (some mx)).run P w = .ok r w ∧ Rep (envOf (hid M h) w) r v := by
  unfold sliceSV at hv
  simp only at hv
  split at hv
  · cases hv
  · rename_i hi0 shi
    cases hi with
    | none => exact hhi.elim
    | some hi =>
      split at hv
      · rename_i n sz f
        split at hv
        · rename_i q s bb l r m hL bl br bm
          cases hv
          obtain ⟨rfl, h0, h1, h2, h3⟩ := hp
          obtain ⟨i, hu, hin, hs, rfl⟩ := slk_spec hL
          cases hx with
          | fl0 a cap _ f =>
            have hl : l = 0 := by omega
            have hr : r = 0 := by omega
            have hm : m = 0 := by omega
            subst hl; subst hr; subst hm
            refine ⟨_, by simp [Instr.sliceAt, Instr.slice, run_underlying hu, sliceBounds3_run (isS := true) (len := 0) (cap := cap) hlo hhi hmx bl br bm h0 h1 h2 (by omega), run_sizeOf_info hin]; rfl, ?_⟩
            exact .fl0 _ _ _ _
          | fl b off _ cap _ _ val hc hl hsee hr =>
            have hbd := sliceBounds3_run (P := P) (w := w) (isS := true) (len := n) (cap := cap) hlo hhi hmx bl br bm h0 h1 h2 (by omega)
            by_cases hm : m.toNat = l.toNat
            · have e0 : (r - l).toNat = 0 := by omega
              refine ⟨.slice (some ⟨b, off, none⟩) 0 (m.toNat - l.toNat), ?_, ?_⟩
              · simp only [Instr.sliceAt, Instr.slice, Sem.run_bind, run_underlying hu, Result.andThen_ok, hbd, run_sizeOf_info hin, Sem.run_pure, if_pos hm]
                rw [show r.toNat - l.toNat = 0 by omega]
              rw [e0]
              exact .fl0 _ _ _ _
            · have e1 : r.toNat - l.toNat = (r - l).toNat := by omega
              refine ⟨.slice (some ⟨b, off + l.toNat * sz, none⟩) (r - l).toNat (m.toNat - l.toNat), by simp [Instr.sliceAt, Instr.slice, run_underlying hu, hbd, run_sizeOf_info hin, hm, hs, Addr.add_lit, e1], ?_⟩
              refine .fl b _ _ _ _ _ (fun i j => val (l.toNat + i) j) (by omega) (fun i hi => hl _ (by omega)) (fun i hi j hj => ?_) (fun i hi j hj => hr _ (by omega) j hj)
              have := hsee (l.toNat + i) (by omega) j hj
              rwa [Nat.add_mul, ← Nat.add_assoc] at this
        · cases hv
      · rename_i b off n sz
        split at hv
        · rename_i q s bb l r m hL bl br bm
          cases hv
          obtain ⟨rfl, h0, h1, h2, h3, h4⟩ := hp
          obtain ⟨i, hu, hin, hs, rfl⟩ := slk_spec hL
          cases hx with
          | os _ _ _ cap _ mm hc hm hb =>
            have e1 : r.toNat - l.toNat = (r - l).toNat := by omega
            have hbd := sliceBounds3_run (P := P) (w := w) (isS := true) (len := n) (cap := cap) hlo hhi hmx bl br bm h0 h1 h2 (by omega)
            have hrun : (Instr.sliceAt t (.slice (some ⟨b, off, none⟩) n cap) lo (some hi) (some mx)).run P w = .ok (.slice (some ⟨b, off + l.toNat * sz, none⟩) (r - l).toNat (m.toNat - l.toNat)) w := by
              by_cases hml : m.toNat = l.toNat
              · have hl0 : l = 0 := by omega
                simp only [Instr.sliceAt, Instr.slice, Sem.run_bind, run_underlying hu, Result.andThen_ok, hbd, run_sizeOf_info hin, Sem.run_pure, if_pos hml]
                rw [hl0]
                simp
              · simp [Instr.sliceAt, Instr.slice, run_underlying hu, hbd, run_sizeOf_info hin, hml, hs, Addr.add_lit, e1]
            refine ⟨_, hrun, .os b _ _ _ _ mm (by omega) hm ?_⟩
            have h5 : l.toNat * sz + (m.toNat - l.toNat) * sz = m.toNat * sz := by rw [← Nat.add_mul]; congr 1; omega
            have h6 : m.toNat * sz ≤ cap * sz := Nat.mul_le_mul_right _ (by omega)
            omega
        · cases hv
      · cases hv
theorem conv_sound [Gl] {s d : TypeId} {u : Value} {x v : SV} {pre : Prop} (hsrc : (P.underlying s).isSome = true) (hx : Rep (envOf (hid M h) w) u x)
    (hv : convSV (ik P d) (isStr P d) x = .ok pre v) (hp : pre) : ∃ r, (convert s d u).run P w = .ok r w ∧ Rep (envOf (hid M h) w) r v := by
  obtain ⟨sd, hsd⟩ := Option.isSome_iff_exists.1 hsrc
  unfold convSV at hv
  split at hv
  · rename_i k0 n
    split at hv
    · rename_i k hk
      cases hv
      cases hx
      have hu : P.underlying d = some (.int k) := by
        unfold ik at hk
        split at hk
        · rename_i k' hu; cases hk; exact hu
        · cases hk
      exact ⟨_, by simp [convert, run_underlying hsd, run_underlying hu, Conv.intToInt], .sc _⟩
    · cases hb : isStr P d with
      | true =>
        rw [hb] at hv
        cases hv
        cases hx
        exact ⟨_, by simp [convert, run_underlying hsd, run_underlying (isStr_spec hb), Conv.intToString], .sc _⟩
      | false => rw [hb] at hv; cases hv
  · rename_i s
    cases hs : isStr P d with
    | false => rw [hs] at hv; cases hv
    | true =>
      rw [hs] at hv
      cases hv
      cases hx
      exact ⟨_, by simp [convert, run_underlying hsd, run_underlying (isStr_spec hs)], .sc _⟩
  · cases hv
theorem arrSl_sound [Gl] {t : TypeId} {u : Value} {x v : SV} {n sz : Nat} {lo hi : Option Value} {slo shi : Option SV} {pre : Prop} (own : Owns M h w) (hA : ark P t = some (n, sz)) (hx : Rep (envOf (hid M h) w) u x)
    (hlo : ORep (envOf (hid M h) w) lo slo) (hhi : ORep (envOf (hid M h) w) hi shi)
    (hv : arrSl n sz x slo shi none h = .ok pre v) (hp : pre) : ∃ r, (Instr.sliceAt t u lo hi none).run P w = .ok r w ∧ Rep (envOf (hid M h) w) r v := by
  obtain ⟨e, i, hu, hin, hs⟩ := ark_spec hA
  unfold arrSl at hv
  simp only at hv
  split at hv
  · rename_i l r bl br
    split at hv
    · rename_i b off
      split at hv
      · rename_i k hk
        cases hv
        obtain ⟨h0, h1, h2, h3, h4, h5⟩ := hp
        have hbd := sliceBounds_run (P := P) (w := w) (isS := false) hlo hhi bl br h0 h1 h2 (Nat.le_refl n)
        obtain ⟨m, hm, hkm⟩ := own.hasSize (Heap.find_mem hk) h5
        cases hx with
        | op _ _ =>
          have e1 : r.toNat - l.toNat = (r - l).toNat := by omega
          have e2 : (if n = l.toNat then (⟨b, off, none⟩ : Addr) else ⟨b, off + l.toNat * sz, none⟩) = ⟨b, off + l.toNat * sz, none⟩ := by
            by_cases hn : n = l.toNat
            · rw [if_pos hn]
              have : l.toNat = 0 := by omega
              rw [this]
              simp
            · rw [if_neg hn]
          refine ⟨.slice (some ⟨b, off + l.toNat * sz, none⟩) (r - l).toNat (n - l.toNat), ?_, ?_⟩
          · simp only [Instr.sliceAt, Instr.sureAddr, Sem.run_bind, run_underlying hu, Result.andThen_ok, hbd, run_sizeOf_info hin, Sem.run_pure, Addr.add_lit, hs, e2, e1]
          · refine .os b _ _ _ _ m (by omega) hm ?_
            have h5 : l.toNat * sz + (n - l.toNat) * sz = n * sz := by rw [← Nat.add_mul]; congr 1; omega
            omega
      · cases hv
    · rename_i cs
      cases hv
      obtain ⟨h0, h1, h2, h3⟩ := hp
      have hbd := sliceBounds_run (P := P) (w := w) (isS := false) hlo hhi bl br h0 h1 h2 (Nat.le_refl n)
      cases hx with
      | fp b off _ val hsee hr =>
        have e1 : r.toNat - l.toNat = (r - l).toNat := by omega
        by_cases hn : n = l.toNat
        · have e0 : (r - l).toNat = 0 := by omega
          refine ⟨.slice (some ⟨b, off, none⟩) 0 (n - l.toNat), ?_, ?_⟩
          · simp only [Instr.sliceAt, Instr.sureAddr, Sem.run_bind, run_underlying hu, Result.andThen_ok, hbd, run_sizeOf_info hin, Sem.run_pure, if_pos hn]
            rw [show r.toNat - l.toNat = 0 by omega]
          · rw [e0]
            exact .fl0 _ _ _ _
        · refine ⟨.slice (some ⟨b, off + l.toNat * sz, none⟩) (r - l).toNat (n - l.toNat), ?_, ?_⟩
          · simp only [Instr.sliceAt, Instr.sureAddr, Sem.run_bind, run_underlying hu, Result.andThen_ok, hbd, run_sizeOf_info hin, Sem.run_pure, Addr.add_lit, hs, if_neg hn, e1]
          · have hlt : ∀ i, i < (r - l).toNat → (l.toNat + i) * sz + sz ≤ cs.length := fun i hi => by
              rw [← h3, ← Nat.succ_mul]
              exact Nat.mul_le_mul_right _ (by omega)
            refine .fl b _ _ _ _ _ (fun i j => val ((l.toNat + i) * sz + j)) (by omega) (fun i hi => ?_) (fun i hi j hj => ?_) (fun i hi j hj => ?_)
            · have := hlt i hi
              simp only [List.length_take, List.length_drop]
              omega
            · have := hlt i hi
              have h6 := hsee ((l.toNat + i) * sz + j) (by omega)
              have h7 : off + l.toNat * sz + i * sz + j = off + ((l.toNat + i) * sz + j) := by rw [Nat.add_mul]; omega
              rw [h7]
              exact h6
            · have := hlt i hi
              have h6 := hr ((l.toNat + i) * sz + j) (by omega)
              have h7 : ((cs.drop ((l.toNat + i) * sz)).take sz).getD j .any = cs.getD ((l.toNat + i) * sz + j) .any := by
                simp only [List.getD_eq_getElem?_getD, List.getElem?_take, hj, if_true, List.getElem?_drop]
              rw [h7]
              exact h6
    · cases hv
  · cases hv
theorem bsl_spec {t : TypeId} (hs : bsl P t = true) : ∃ e, P.underlying t = some (.slice e) ∧ P.underlying e = some (.int .u8) := by
  unfold bsl at hs
  split at hs
  · rename_i e hu
    split at hs
    · rename_i hi; exact ⟨e, hu, hi⟩
    · cases hs
  · cases hs
theorem push_fold : ∀ (ns : List Int) (s : ByteArray), ns.foldl (fun r n => r.push (UInt8.ofNat n.toNat)) s = ⟨s.data ++ (ns.map fun n => UInt8.ofNat n.toNat).toArray⟩
  | [], s => by simp
  | n :: ns, s => by
    rw [List.foldl_cons, push_fold ns]
    simp [ByteArray.push]
theorem bstr_fold (ns : List Int) : ns.foldl (fun r n => r.push (UInt8.ofNat n.toNat)) ByteArray.empty = bstr ns := by
  rw [push_fold]
  simp [bstr, ByteArray.empty, ByteArray.emptyWithCapacity]
  rfl
theorem cvt_run [Gl] {s d : TypeId} (hb : bsl P s = true) (hd : isStr P d = true) (own : Owns M h w) {b off n cap : Nat} {k : Blk} (hk : h.find b = some k) (ns : List Int) (hn : ns.length = n) (hle : off + n ≤ k.len)
    (hg : ∀ i, i < n → k.get (off + i) = .sc (.int .u8 (ns.getD i 0))) : (convert s d (.slice (some ⟨b, off, none⟩) n cap)).run P w = .ok (.string (bstr ns)) w := by
  obtain ⟨e, hu, he⟩ := bsl_spec hb
  rw [run_convert_bytes_string w s d e _ n cap hu he (isStr_spec hd)]
  have hc : ∀ j, j < n → w.cell? ((⟨b, off, none⟩ : Addr).add (0 + j)) = some ((fun i => Value.int .u8 (ns.getD i 0)) (0 + j)) := fun j hj => by
    obtain ⟨v, hv, hr⟩ := own.cell (Heap.find_mem hk) (i := off + j) (by omega)
    rw [hg j hj] at hr
    have : v = .int .u8 (ns.getD j 0) := by cases hr; rfl
    rw [Addr.add_lit, Nat.zero_add, hv, this]
  have hl := run_loadCellsFrom (P := P) (w := w) (a := ⟨b, off, none⟩) (fun i => Value.int .u8 (ns.getD i 0)) n 0 #[] hc
  rw [run_bytesToString w _ n cap ns, bstr_fold]
  rw [loadCells, hl]
  congr 1
  simp only [Array.empty_append, Nat.zero_add]
  congr 1
  apply List.ext_getElem
  · simp [hn]
  · intro i h1 h2
    have h3 : i < n := by simpa using h1
    simp [hn, h3]
theorem cvt_sound [Gl] {s d : TypeId} {u : Value} {x v : SV} {pre : Prop} (own : Owns M h w) (hsrc : (P.underlying s).isSome = true) (hx : Rep (envOf (hid M h) w) u x)
    (hv : convX (bsl P s) (ik P d) (isStr P d) x h = .ok pre v) (hp : pre) : ∃ r, (convert s d u).run P w = .ok r w ∧ Rep (envOf (hid M h) w) r v := by
  unfold convX at hv
  split at hv
  · rename_i b off n sz
    cases hb : (bsl P s && isStr P d && Nat.beq sz 1) with
    | false => rw [hb] at hv; cases hv
    | true =>
      rw [hb] at hv
      simp only [cond_true] at hv
      simp only [Bool.and_eq_true, Nat.beq_eq] at hb
      obtain ⟨⟨hb1, hb2⟩, rfl⟩ := hb
      split at hv
      · rename_i k hk
        unfold cvtK at hv
        split at hv
        · rename_i kd l
          cases hv
          obtain ⟨rfl, hle⟩ := hp
          cases hx with
          | os _ _ _ cap _ m hc hm hbb =>
            refine ⟨_, cvt_run hb1 hb2 own hk ((l.drop off).take n) (by simp; omega) (by simpa [Blk.len] using hle) (fun i hi => ?_), .sc _⟩
            simp only [Blk.get]
            rw [List.getD_eq_getElem?_getD, List.getD_eq_getElem?_getD, List.getElem?_take, if_pos hi, List.getElem?_drop]
        · rename_i cs
          cases hv
          obtain ⟨hle, hall⟩ := hp
          cases hx with
          | os _ _ _ cap _ m hc hm hbb =>
            refine ⟨_, cvt_run hb1 hb2 own hk (((cs.drop off).take n).map byteOf) (by simp; omega) (by simpa [Blk.len] using hle) (fun i hi => ?_), .sc _⟩
            simp only [Blk.get]
            have hi2 : off + i < cs.length := by omega
            have h1 : ((cs.drop off).take n)[i]? = some cs[off + i] := by rw [List.getElem?_take, if_pos hi, List.getElem?_drop, List.getElem?_eq_getElem hi2]
            rw [List.all_eq_true] at hall
            have h2 := hall cs[off + i] (List.mem_of_getElem? h1)
            rw [List.getD_eq_getElem?_getD, List.getD_eq_getElem?_getD, List.getElem?_map, h1, List.getElem?_eq_getElem hi2]
            simp only [Option.map_some, Option.getD_some]
            generalize cs[off + i] = y at h2
            unfold isByte at h2
            split at h2
            · rfl
            · cases h2
        · cases hv
      · cases hv
  · cases hv
    obtain ⟨h1, h2⟩ := hp
    obtain ⟨e, hu, he⟩ := bsl_spec h1
    cases hx
    refine ⟨_, ?_, .sc _⟩
    rw [run_convert_bytes_string w s d e _ 0 0 hu he (isStr_spec h2)]
    rfl
  · exact conv_sound hsrc hx hv hp
theorem sliceX_new {A : Option (Nat × Nat)} {st : Bool} {L : Option (TypeId × Nat × Nat)} {x : SV} {lo hi mx : Option SV} {pre : Prop} {k : Blk} {mk : Nat → SV} (hv : sliceX A st L x lo hi mx h = .new pre k mk) : sliceSV st L x lo hi mx = .new pre k mk := by
  unfold sliceX at hv
  split at hv
  · unfold arrSl at hv
    split at hv
    · cases hv
    · split at hv
      · split at hv
        · split at hv <;> cases hv
        · cases hv
        · cases hv
      · cases hv
  · exact hv
theorem convX_new {bs sd : Bool} {kd : Option IntKind} {x : SV} {pre : Prop} {k : Blk} {mk : Nat → SV} (hv : convX bs kd sd x h = .new pre k mk) : convSV kd sd x = .new pre k mk := by
  unfold convX at hv
  split at hv
  · rename_i b off n sz
    cases hb : (bs && sd && Nat.beq sz 1) with
    | false => rw [hb] at hv; cases hv
    | true =>
      rw [hb] at hv
      simp only [cond_true] at hv
      split at hv
      · unfold cvtK at hv
        split at hv <;> cases hv
      · cases hv
  · cases hv
  · exact hv
theorem tup_sound {u : Value} {cs : List SV} {i : Nat} (hx : Rep (envOf (hid M h) w) u (.tup cs)) (hi : i < cs.length) :
    ∃ r, (Instr.extract u i).run P w = .ok r w ∧ Rep (envOf (hid M h) w) r (cs.getD i .any) := by
  cases hx with
  | tup c _ hl hr =>
    have hlt : i < c.size := by omega
    refine ⟨c[i], by simp [Instr.extract, hlt], ?_⟩
    have := hr i hi
    simpa [hlt] using this
theorem single_spec {E : Env} {v : Value} {s : SV} (hr : Rep E v s) (hs : single s = true) : v.oneCell' = true ∧ v.cells = #[v] := by
  cases hr
  case sc => cases v <;> first | (simp [single] at hs; done) | exact ⟨rfl, rfl⟩
  all_goals first | (simp [single] at hs; done) | exact ⟨rfl, rfl⟩
theorem svCells_spec [Gl] {E : Env} {v : Value} {s : SV} {cs : List SV} (hr : Rep E v s) (hc : svCells s = some cs) :
    v.cells.size = cs.length ∧ (∀ i, i < cs.length → Rep E (v.cells.getD i undef) (cs.getD i .any)) ∧ ∀ i, i < cs.length → (v.cells.getD i undef).oneCell' = true := by
  have one : single s = true → some [s] = some cs → v.cells.size = cs.length ∧ (∀ i, i < cs.length → Rep E (v.cells.getD i undef) (cs.getD i .any)) ∧ ∀ i, i < cs.length → (v.cells.getD i undef).oneCell' = true := by
    intro hs hh
    cases hh
    obtain ⟨h1, h2⟩ := single_spec hr hs
    rw [h2]
    refine ⟨rfl, fun i hi => ?_, fun i hi => ?_⟩
    · obtain rfl : i = 0 := by simpa using hi
      simpa using hr
    · obtain rfl : i = 0 := by simpa using hi
      simpa using h1
  cases s with
  | agg cs' =>
    simp only [svCells] at hc
    by_cases ha : cs'.all single = true
    · rw [ha] at hc
      simp only [cond_true, Option.some.injEq] at hc
      subst hc
      cases hr with
      | agg c _ hl hh =>
        refine ⟨hl, hh, fun i hi => ?_⟩
        have hm : cs'.getD i .any ∈ cs' := by rw [getD_list _ _ _ hi]; exact List.getElem_mem hi
        exact (single_spec (hh i hi) (List.all_eq_true.1 ha _ hm)).1
    · simp only [Bool.not_eq_true] at ha
      rw [ha] at hc
      simp at hc
  | any => simp [svCells, single] at hc
  | tup cs' => simp [svCells, single] at hc
  | sc x =>
    simp only [svCells] at hc
    by_cases hs : single (.sc x) = true
    · rw [hs] at hc; simp only [cond_true] at hc; exact one hs hc
    · simp only [Bool.not_eq_true] at hs; rw [hs] at hc; simp at hc
  | _ => exact one rfl (by simpa [svCells, single] using hc)
end
end Go.Ab
/-! Af: Operations that make a block or an aggregate; the yield of every operation that only computes. -/
namespace Go.Ab
open Go.RowKit
def alc (w : World) (c : Array Value) (e : TypeId) : World := { w with heap := w.heap.push (.cells c e (0, 0)) }
section
variable {P : Program} {M : Nat → Prop} {h : Heap} {w : World}
theorem heap_alc_old {c : Array Value} {e : TypeId} {b : Nat} (hb : b < w.heap.size) : (alc w c e).heap[b]? = w.heap[b]? := by
  show (w.heap.push _)[b]? = _
  rw [Array.getElem?_push, if_neg (Nat.ne_of_lt hb)]
theorem heap_alc_new {c : Array Value} {e : TypeId} : (alc w c e).heap[w.heap.size]? = some (.cells c e (0, 0)) := by
  show (w.heap.push _)[w.heap.size]? = _
  rw [Array.getElem?_push, if_pos rfl]
theorem size_alc {c : Array Value} {e : TypeId} : (alc w c e).heap.size = w.heap.size + 1 := by simp [alc]
theorem lt_of_heap {b : Nat} {o : Obj} (hb : w.heap[b]? = some o) : b < w.heap.size := by
  rcases Nat.lt_or_ge b w.heap.size with h' | h'
  · exact h'
  · rw [Array.getElem?_eq_none h'] at hb; cases hb
theorem frm_alc [Gl] (c : Array Value) (e : TypeId) : Frm (fun _ => False) w (alc w c e) where
  size := by rw [size_alc]; omega
  keep := fun b hb _ => heap_alc_old hb
  sizes := fun b m ⟨c', e', fr, hb, hs⟩ => ⟨c', e', fr, by rw [heap_alc_old (lt_of_heap hb)]; exact hb, hs⟩
  os := rfl
  tape := rfl
  output := rfl
  drn := Nat.le_refl _
theorem Owns.has_lt [Gl] (own : Owns M h w) {b : Nat} (hb : h.has b) : b < w.heap.size := by
  obtain ⟨k, hk⟩ := hb
  cases hM : k.isM with
  | false =>
    obtain ⟨c, e, hh, _⟩ := own.ok b k hk hM
    exact lt_of_heap hh
  | true =>
    cases k with
    | mp l =>
      obtain ⟨es, ck, hh, _⟩ := own.mp b l hk
      exact lt_of_heap hh
    | _ => cases hM
theorem Owns.notMap [Gl] (own : Owns M h w) {b : Nat} {k : Blk} {m : Sz} (hm : (b, k) ∈ h) (hs : HasSize w b m) : k.isM = false := by
  cases k with
  | mp l =>
    obtain ⟨es, ck, hh, _⟩ := own.mp b l hm
    obtain ⟨c, e, fr, hc, _⟩ := hs
    rw [hh] at hc
    cases hc
  | _ => rfl
theorem has_cons {b b' : Nat} {k : Blk} : Heap.has ((b, k) :: h) b' ↔ b' = b ∨ h.has b' := by
  unfold Heap.has
  constructor
  · rintro ⟨k', hk⟩
    rcases List.mem_cons.1 hk with hk | hk
    · cases hk; exact .inl rfl
    · exact .inr ⟨k', hk⟩
  · rintro (rfl | ⟨k', hk⟩)
    · exact ⟨k, List.mem_cons_self⟩
    · exact ⟨k', List.mem_cons_of_mem _ hk⟩
theorem has_map {b : Nat} : h.has b ↔ b ∈ h.map (·.1) := by
  unfold Heap.has
  rw [List.mem_map]
  constructor
  · rintro ⟨k, hk⟩; exact ⟨(b, k), hk, rfl⟩
  · rintro ⟨⟨b', k⟩, hk, rfl⟩; exact ⟨k, hk⟩
theorem env_alc [Gl] (_ : Owns M h w) (c : Array Value) (e : TypeId) (k : Blk) : (envOf (hid M h) w).le (envOf (hid M ((w.heap.size, k) :: h)) (alc w c e)) :=
  env_le (frm_alc c e) (fun _ x _ => x.elim) (fun b hb x => by
    rcases x with x | x
    · exact .inl x
    · rcases has_cons.1 x with x | x
      · omega
      · exact .inr x)
theorem Owns.alc [Gl] (own : Owns M h w) {c : Array Value} {e : TypeId} {k : Blk} (hkM : k.isM = false) (hl : k.len ≤ c.size) (hr : ∀ i, i < k.len → Rep (envOf (hid M h) w) (c.getD i undef) (k.get i)) :
    Owns M ((w.heap.size, k) :: h) (alc w c e) where
  nodup := by
    rw [List.map_cons, List.nodup_cons]
    refine ⟨fun hm => ?_, own.nodup⟩
    have := own.has_lt (has_map.2 hm)
    omega
  notM := fun b hb hm => by
    rcases has_cons.1 hb with rfl | hb
    · have := own.lt _ hm; omega
    · exact own.notM b hb hm
  lt := fun b hm => by have := own.lt b hm; rw [size_alc]; omega
  mp := fun b l hm => by
    rcases List.mem_cons.1 hm with hm | hm
    · cases hm
      cases hkM
    · obtain ⟨es, ck, hb, he⟩ := own.mp b l hm
      exact ⟨es, ck, by rw [heap_alc_old (lt_of_heap hb)]; exact hb, he⟩
  ok := fun b k' hm hM => by
    rcases List.mem_cons.1 hm with hm | hm
    · cases hm
      exact ⟨c, e, heap_alc_new, hl, fun i hi => (hr i hi).mono (env_alc own c e k)⟩
    · obtain ⟨c', e', hb, hl', hr'⟩ := own.ok b k' hm hM
      exact ⟨c', e', by rw [heap_alc_old (lt_of_heap hb)]; exact hb, hl', fun i hi => (hr' i hi).mono (env_alc own c e k)⟩
  gl := own.gl.mono (env_alc own c e k)
structure NewOK (P : Program) (M : Nat → Prop) (h : Heap) (w : World) (x : Sem Value) (k : Blk) (mk : Nat → SV) : Prop where
  nM : k.isM = false
  ex : ∃ c e u, x.run P w = .ok u (alc w c e) ∧ k.len ≤ c.size ∧ (∀ i, i < k.len → Rep (envOf (hid M h) w) (c.getD i undef) (k.get i)) ∧
    Rep (envOf (hid M ((w.heap.size, k) :: h)) (Ab.alc w c e)) u (mk w.heap.size)
theorem box_sound [Gl] {e : TypeId} {u : Value} {x : SV} {cs : List SV} (hx : Rep (envOf (hid M h) w) u x) (hc : svCells x = some cs) :
    NewOK P M h w (Instr.box e u) (.svs cs) (fun b => .op b 0) := by
  obtain ⟨hl, hr, _⟩ := svCells_spec hx hc
  exact ⟨rfl, _, e, _, rfl, by simp only [Blk.len]; omega, fun i hi => hr i hi, .op _ _⟩
theorem zk_spec {t : TypeId} {z : List Value} (hz : zk P t = some z) : ∃ i v, P.info? t = some i ∧ i.zero = some v ∧ v.cells.toList = z := by
  unfold zk at hz
  split at hz
  · rename_i i hi
    split at hz
    · rename_i v hv
      cases hz
      exact ⟨i, v, hi, hv, rfl⟩
    · cases hz
  · cases hz
theorem run_zeroValue [Gl] {t : TypeId} {i : TypeInfo} {v : Value} (hi : P.info? t = some i) (hz : i.zero = some v) : (zeroValue t).run P w = .ok v w := by
  simp [zeroValue, run_typeInfo hi, hz]
theorem getD_toList {α : Type} (c : Array α) (i : Nat) (d : α) : c.getD i d = c.toList.getD i d := by
  simp [Array.getD_eq_getD_getElem?, List.getD_eq_getElem?_getD]
def ntOf (v : Value) : SV := match v with
  | .slice none 0 0 => .nt
  | v => .sc v
theorem alloc_sound [Gl] {t : TypeId} {z : List Value} (hz : zk P t = some z) :
    NewOK P M h w (Instr.alloc t true (.tuple #[])) (.svs (z.map .sc)) (fun b => .op b 0) := by
  obtain ⟨i, v, hi, hv, rfl⟩ := zk_spec hz
  refine ⟨rfl, v.cells, t, .pointer (some ⟨w.heap.size, 0, none⟩), ?_, by simp [Blk.len], fun i hi => ?_, .op _ _⟩
  · simp only [Instr.alloc, Sem.run_bind, run_zeroValue hi hv, Result.andThen_ok, Sem.run_pure, newVar, newRow, run_newObj]
    rfl
  · simp only [Blk.len, List.length_map] at hi
    simp only [Blk.get, List.getD_eq_getElem?_getD, List.getElem?_map, List.getElem?_eq_getElem hi, Option.map_some, Option.getD_some]
    rw [getD_toList, getD_list _ _ _ hi]
    exact .sc _
theorem rep_ntOf {E : Env} (v : Value) : Rep E v (ntOf v) := by
  unfold ntOf
  split
  · exact .nt
  · exact .sc _
theorem allocT_sound [Gl] {t : TypeId} {z : List Value} (hz : zk P t = some z) :
    NewOK P M h w (Instr.alloc t true (.tuple #[])) (.svs (z.map ntOf)) (fun b => .opT b t z.length) := by
  obtain ⟨i, v, hi, hv, rfl⟩ := zk_spec hz
  refine ⟨rfl, v.cells, t, .pointer (some ⟨w.heap.size, 0, none⟩), ?_, by simp [Blk.len], fun i hi => ?_, .opT _ _ _ ⟨_, _, _, heap_alc_new, by simp, .inr rfl⟩⟩
  · simp only [Instr.alloc, Sem.run_bind, run_zeroValue hi hv, Result.andThen_ok, Sem.run_pure, newVar, newRow, run_newObj]
    rfl
  · simp only [Blk.len, List.length_map] at hi
    simp only [Blk.get, List.getD_eq_getElem?_getD, List.getElem?_map, List.getElem?_eq_getElem hi, Option.map_some, Option.getD_some]
    rw [getD_toList, getD_list _ _ _ hi]
    exact rep_ntOf _
/-! ### building aggregates and slices -/
def setAll (l : List SV) (off : Nat) (cs : List SV) : List SV := match cs with
  | [] => l
  | c :: r => setAll (l.set off c) (off + 1) r
def fillSV (place : Nat → Option (Nat × Nat)) (l : List SV) (ps : List (Nat × SV)) : Option (List SV) := match ps with
  | [] => some l
  | (i, v) :: r => match place i, svCells v with
    | some (off, n), some cs => if cs.length = n ∧ off + n ≤ l.length then fillSV place (setAll l off cs) r else none
    | _, _ => none
theorem length_setAll [Gl] : ∀ (cs l : List SV) (off : Nat), (setAll l off cs).length = l.length
  | [], _, _ => rfl
  | c :: r, l, off => by rw [setAll, length_setAll r]; simp
def putAll (c : Array Value) (off : Nat) (vs : List Value) : Array Value := match vs with
  | [] => c
  | v :: r => putAll (c.setIfInBounds off v) (off + 1) r
theorem putAll_fold [Gl] (off : Nat) : ∀ (vs : List Value) (k : Nat) (c : Array Value), (vs.zipIdx k).foldl (fun cs (x : Value × Nat) => cs.setIfInBounds (off + x.2) x.1) c = putAll c (off + k) vs
  | [], _, _ => rfl
  | v :: r, k, c => by
    simp only [List.zipIdx_cons, List.foldl_cons, putAll]
    rw [putAll_fold off r (k + 1)]
    congr 1
theorem size_putAll [Gl] : ∀ (vs : List Value) (c : Array Value) (off : Nat), (putAll c off vs).size = c.size
  | [], _, _ => rfl
  | v :: r, c, off => by rw [putAll, size_putAll r]; simp
theorem rep_putAll [Gl] {E : Env} : ∀ (cs : List SV) (vs : List Value) (c : Array Value) (l : List SV) (off : Nat), vs.length = cs.length → c.size = l.length →
    (∀ i, i < cs.length → Rep E (vs.getD i undef) (cs.getD i .any)) → (∀ i, i < l.length → Rep E (c.getD i undef) (l.getD i .any)) →
    ∀ i, i < l.length → Rep E ((putAll c off vs).getD i undef) ((setAll l off cs).getD i .any)
  | [], [], c, l, off, _, _, _, h2 => h2
  | [], _ :: _, _, _, _, h, _, _, _ => by simp at h
  | _ :: _, [], _, _, _, h, _, _, _ => by simp at h
  | s :: cs, v :: vs, c, l, off, hl, hs, h1, h2 => by
    intro i hi
    rw [putAll, setAll]
    refine rep_putAll cs vs _ _ (off + 1) (by simpa using hl) (by simpa using hs) (fun j hj => ?_) (fun j hj => ?_) i (by simpa using hi)
    · have := h1 (j + 1) (by simpa using hj)
      simpa using this
    · have hj' : j < l.length := by simpa using hj
      by_cases hjo : off = j
      · subst hjo
        have hc : off < c.size := by omega
        have := h1 0 (by simp)
        simpa [hc, hj'] using this
      · have := h2 j hj'
        simpa [Array.getElem?_setIfInBounds_ne hjo, List.getElem?_set_ne hjo, List.getD_eq_getElem?_getD] using this
theorem fill_sound [Gl] {E : Env} {place : Nat → Option (Nat × Nat)} : ∀ (ps : List (Nat × SV)) (qs : List (Nat × Value)) (c : Array Value) (l r : List SV),
    qs.map (·.1) = ps.map (·.1) → (∀ i, i < ps.length → Rep E (qs.getD i (0, undef)).2 (ps.getD i (0, .any)).2) → c.size = l.length → (∀ i, i < l.length → Rep E (c.getD i undef) (l.getD i .any)) →
    fillSV place l ps = some r → ∃ c', Instr.fill place c qs = some c' ∧ c'.size = r.length ∧ ∀ i, i < r.length → Rep E (c'.getD i undef) (r.getD i .any)
  | [], [], c, l, r, _, _, hs, h2, hf => by
    cases hf
    exact ⟨c, rfl, hs, h2⟩
  | [], _ :: _, _, _, _, h, _, _, _, _ => by simp at h
  | _ :: _, [], _, _, _, h, _, _, _, _ => by simp at h
  | (i, s) :: ps, (i', v) :: qs, c, l, r, hm, hr, hs, h2, hf => by
    simp only [List.map_cons, List.cons.injEq] at hm
    obtain ⟨rfl, hm⟩ := hm
    simp only [fillSV] at hf
    split at hf
    · rename_i off n cs hp hc
      by_cases hb : cs.length = n ∧ off + n ≤ l.length
      · rw [if_pos hb] at hf
        obtain ⟨rfl, hle⟩ := hb
        have h0 := hr 0 (by simp)
        simp only [List.getD_cons_zero] at h0
        obtain ⟨hv1, hv2, _⟩ := svCells_spec h0 hc
        have hstep : Instr.fill place c ((i', v) :: qs) = Instr.fill place (putAll c off v.cells.toList) qs := by
          have hfold : v.cells.zipIdx.foldl (fun cs (x : Value × Nat) => cs.setIfInBounds (off + x.2) x.1) c = putAll c off v.cells.toList := by
            rw [← Array.foldl_toList, Array.toList_zipIdx]
            exact putAll_fold off _ 0 c
          have hnot : ¬ (v.cells.size ≠ cs.length ∨ off + v.cells.size > c.size) := by omega
          rw [Instr.fill]
          simp only [hp, Bool.or_eq_true, decide_eq_true_eq]
          rw [if_neg hnot]
          rw [← hfold]
        rw [hstep]
        refine fill_sound ps qs _ _ r hm (fun j hj => ?_) (by rw [size_putAll, length_setAll]; exact hs) (fun j hj => ?_) hf
        · have := hr (j + 1) (by simpa using hj)
          simpa using this
        · rw [length_setAll] at hj
          exact rep_putAll cs _ c l off (by rw [Array.length_toList]; exact hv1) hs (fun k hk => by rw [← getD_toList]; exact hv2 k hk) h2 j hj
      · rw [if_neg hb] at hf
        cases hf
    · cases hf
def flk (P : Program) (t : TypeId) : Option (List (Nat × Nat)) :=
  match P.underlying t with
  | some (.struct fs) => bif fs.toList.all (fun f => (P.info? f.type).isSome) then some (fs.toList.map fun f => (f.offset, P.cellsOf f.type)) else none
  | _ => none
def buildSV (F : Option (List (Nat × Nat))) (A : Option (Nat × Nat)) (Z : Option (List Value)) (ps : List (Nat × SV)) : VRes :=
  match Z with
  | none => .bad
  | some z => match F with
    | some fl => match fillSV (fun i => fl[i]?) (z.map .sc) ps with
      | some r => .ok True (.agg r)
      | none => .bad
    | none => match A with
      | some (_, s) => match fillSV (fun i => some (i * s, s)) (z.map .sc) ps with
        | some r => .ok True (.agg r)
        | none => .bad
      | none => .bad
theorem run_listMapM [Gl] {α β : Type} (f : α → Sem β) (g : α → β) : ∀ (l : List α), (∀ x ∈ l, (f x).run P w = .ok (g x) w) → (l.mapM f).run P w = .ok (l.map g) w
  | [], _ => by simp
  | x :: l, hx => by
    have := run_listMapM f g l (fun y hy => hx y (List.mem_cons_of_mem _ hy))
    simp [List.mapM_cons, hx x List.mem_cons_self, this]
theorem zeros_rep [Gl] {E : Env} (z : Array Value) : ∀ i, i < (z.toList.map SV.sc).length → Rep E (z.getD i undef) ((z.toList.map SV.sc).getD i .any) := fun i hi => by
  simp only [List.length_map] at hi
  rw [getD_toList, getD_list _ _ _ hi]
  simp only [List.getD_eq_getElem?_getD, List.getElem?_map, List.getElem?_eq_getElem hi, Option.map_some, Option.getD_some]
  exact .sc _
theorem build_sound [Gl] {t : TypeId} {ps : List (Nat × SV)} {qs : Array (Nat × Value)} {v : SV} {pre : Prop} (hm : qs.toList.map (·.1) = ps.map (·.1))
    (hr : ∀ i, i < ps.length → Rep (envOf (hid M h) w) (qs.toList.getD i (0, undef)).2 (ps.getD i (0, .any)).2)
    (hv : buildSV (flk P t) (ark P t) (zk P t) ps = .ok pre v) : ∃ r, (Instr.build t qs).run P w = .ok r w ∧ Rep (envOf (hid M h) w) r v := by
  unfold buildSV at hv
  cases hZ : zk P t with
  | none => simp [hZ] at hv
  | some z =>
    obtain ⟨i, zv, hi, hzv, rfl⟩ := zk_spec hZ
    simp only [hZ] at hv
    cases hF : flk P t with
    | some fl =>
      simp only [hF] at hv
      split at hv
      · rename_i r hf
        cases hv
        unfold flk at hF
        split at hF
        · rename_i fs hu
          by_cases hall : (fs.toList.all fun f => (P.info? f.type).isSome) = true
          · rw [hall] at hF
            simp only [cond_true, Option.some.injEq] at hF
            subst hF
            have hmap : (fs.mapM fun f => do pure (f.offset, ← sizeOf f.type) : Sem (Array (Nat × Nat))).run P w = .ok ((fs.toList.map fun f => (f.offset, P.cellsOf f.type)).toArray) w := by
              rw [Array.mapM_eq_mapM_toList]
              simp only [Sem.run_map]
              rw [run_listMapM _ (fun f : Field => (f.offset, P.cellsOf f.type)) _ (fun f hf => by
                obtain ⟨j, hj⟩ := Option.isSome_iff_exists.1 (List.all_eq_true.1 hall f hf)
                simp [run_sizeOf_info hj, Program.cellsOf, hj])]
              simp
            obtain ⟨c', hc', hs', hr'⟩ := fill_sound ps qs.toList zv.cells _ r hm hr (by simp) (zeros_rep zv.cells) hf
            refine ⟨.agg c', ?_, .agg _ _ hs' hr'⟩
            simp only [Instr.build, Sem.run_bind, run_zeroValue hi hzv, Result.andThen_ok, run_underlying hu, hmap, List.getElem?_toArray]
            rw [hc']
            rfl
          · simp only [Bool.not_eq_true] at hall
            rw [hall] at hF
            simp at hF
        · cases hF
      · cases hv
    | none =>
      simp only [hF] at hv
      cases hA : ark P t with
      | none => simp [hA] at hv
      | some ns =>
        obtain ⟨n, s⟩ := ns
        simp only [hA] at hv
        split at hv
        · rename_i r hf
          cases hv
          obtain ⟨e, j, hu, hin, rfl⟩ := ark_spec hA
          obtain ⟨c', hc', hs', hr'⟩ := fill_sound ps qs.toList zv.cells _ r hm hr (by simp) (zeros_rep zv.cells) hf
          refine ⟨.agg c', ?_, .agg _ _ hs' hr'⟩
          simp only [Instr.build, Sem.run_bind, run_zeroValue hi hzv, Result.andThen_ok, run_underlying hu, run_sizeOf_info hin]
          rw [hc']
          rfl
        · cases hv
end
end Go.Ab
/-! Ag: New slices; the yield of every operation that only computes or makes a block; its soundness. -/
namespace Go.Ab
open Go.RowKit
section
variable {P : Program} {M : Nat → Prop} {h : Heap} {w : World}
theorem length_zfill [Gl] (z : List Value) : ∀ n, (zfill z n).length = n * z.length
  | 0 => by simp [zfill]
  | n + 1 => by simp [zfill, length_zfill z n, Nat.add_mul]; omega
theorem getD_zfill [Gl] (z : List Value) : ∀ n i, i < n * z.length → (zfill z n).getD i .any = .sc (z.getD (i % z.length) undef)
  | 0, i, h => by omega
  | n + 1, i, h => by
    rw [Nat.add_mul, Nat.one_mul] at h
    by_cases hi : i < z.length
    · rw [Nat.mod_eq_of_lt hi, zfill, List.getD_eq_getElem?_getD, List.getElem?_append_left (by simpa using hi)]
      simp [hi]
    · rw [zfill, List.getD_eq_getElem?_getD, List.getElem?_append_right (by simpa using hi), ← List.getD_eq_getElem?_getD]
      simp only [List.length_map]
      rw [getD_zfill z n (i - z.length) (by omega)]
      congr 2
      exact (Nat.mod_eq_sub_mod (by omega)).symm
theorem mkCells (z : Array Value) (n i : Nat) (hi : i < n * z.size) : ((Array.range (n * z.size)).map (z[· % z.size]!)).getD i undef = z.toList.getD (i % z.size) undef := by
  have hs : 0 < z.size := Nat.pos_of_ne_zero (fun h => by rw [h] at hi; omega)
  have hm : i % z.size < z.size := Nat.mod_lt _ hs
  simp [hi, hm]
theorem zeros_len [Gl] (z : List Value) (n : Nat) : (zeros z n).len ≤ n * z.length := by
  unfold zeros
  split <;> simp [Blk.len, length_zfill]
theorem zeros_get [Gl] {E : Env} (z : Array Value) (n i : Nat) (hi : i < (zeros z.toList n).len) :
    Rep E (((Array.range (n * z.size)).map (z[· % z.size]!)).getD i undef) ((zeros z.toList n).get i) := by
  have hlt : i < n * z.size := Nat.lt_of_lt_of_le hi (by simpa using zeros_len z.toList n)
  rw [mkCells z n i hlt]
  generalize hz : z.toList = l at *
  have hsz : z.size = l.length := by rw [← hz]; simp
  rw [hsz] at hlt ⊢
  unfold zeros at *
  split
  · rename_i k
    simp only [List.length_singleton, Nat.mod_one] at *
    simp only [Blk.get, List.getD_cons_zero]
    rw [show (List.replicate n (0 : Int)).getD i 0 = 0 by simp [List.getD_eq_getElem?_getD, List.getElem?_replicate]; split <;> rfl]
    exact .sc _
  · simp only [List.length_singleton, Nat.mod_one] at *
    simp only [Blk.get, List.getD_cons_zero]
    rw [show (List.replicate n false).getD i false = false by simp [List.getD_eq_getElem?_getD, List.getElem?_replicate]; split <;> rfl]
    exact .sc _
  · simp only [Blk.get]
    rw [getD_zfill l n i hlt]
    exact .sc _
theorem i64_wrap {n : Int} (h1 : -9223372036854775808 ≤ n) (h2 : n ≤ 9223372036854775807) : IntKind.i64.wrap n = n := by
  have e : (2 : Int) ^ 64 = 18446744073709551616 := by decide
  have e' : (2 : Int) ^ 63 = 9223372036854775808 := by decide
  show (if (true && decide (n % (2 : Int) ^ 64 ≥ (2 : Int) ^ 63)) = true then n % (2 : Int) ^ 64 - (2 : Int) ^ 64 else n % (2 : Int) ^ 64) = n
  simp only [e, e', Bool.true_and, decide_eq_true_eq]
  split <;> omega
theorem zeros_isM (z : List Value) (n : Nat) : (zeros z n).isM = false := by
  unfold zeros
  split <;> rfl
theorem make_sound [Gl] {t : TypeId} {u u' : Value} {l c : SV} {pre : Prop} {k : Blk} {mk : Nat → SV} (hl : Rep (envOf (hid M h) w) u l) (hc : Rep (envOf (hid M h) w) u' c)
    (hv : makeSV (slk P t) (match slk P t with | some (e, _, _) => zk P e | none => none) l c = .new pre k mk) (hp : pre) : NewOK P M h w (Instr.makeSlice t u u') k mk := by
  cases hL : slk P t with
  | none => simp [hL, makeSV] at hv
  | some x =>
    obtain ⟨e, s, bytes⟩ := x
    simp only [hL] at hv
    cases hZ : zk P e with
    | none => simp [hZ, makeSV] at hv
    | some z =>
      simp only [hZ] at hv
      unfold makeSV at hv
      split at hv
      · rename_i _ _ s' bytes' z' kk n kk' m h1 h2
        cases h1; cases h2; cases hv
        cases hl; cases hc
        obtain ⟨h0, h1, h2, h3, h4, h5⟩ := hp
        obtain ⟨i, hu, hin, rfl, rfl⟩ := slk_spec hL
        obtain ⟨i', zv, hi', hzv, rfl⟩ := zk_spec hZ
        rw [hin] at hi'; cases hi'
        have hsz : zv.cells.size = i.size := by simpa using h4
        have e48 : (2 ^ 48 : Int) = 281474976710656 := by decide
        by_cases hm0 : m.toNat = 0
        · refine ⟨zeros_isM _ _, ⟨#[], e, .slice (some ⟨w.heap.size, 0, none⟩) n.toNat m.toNat, ?_, ?_, fun j hj => ?_, ?_⟩⟩
          · have hn1 : ¬ (n < 0) := by omega
            have hn2 : ¬ (m < n) := by omega
            have hm1 : ¬ (m < 0) := by omega
            have hm2 : ¬ (281474976710656 < (i.bytes : Int) * m) := by omega
            simp [Instr.makeSlice, run_underlying hu, asInt, asIntOf, run_typeInfo hin, i64_wrap (n := n) (by omega) (by omega), i64_wrap (n := m) (by omega) (by omega), hn1, hn2, hm1, hm2, run_sizeOf_info hin, hm0, newRow, alc, Array.range_zero']
          · rw [hm0]; have := zeros_len zv.cells.toList 0; simp at this ⊢; omega
          · rw [hm0] at hj; have := zeros_len zv.cells.toList 0; simp at this; omega
          · rw [hm0]
            refine .os _ 0 _ _ _ 0 (by omega) ⟨_, _, _, heap_alc_new, by simp⟩ (by simp)
        · have hpos : 0 < m.toNat * i.size := Nat.mul_pos (Nat.pos_of_ne_zero hm0) h5
          refine ⟨zeros_isM _ _, ⟨(Array.range (m.toNat * zv.cells.size)).map (zv.cells[· % zv.cells.size]!), e, .slice (some ⟨w.heap.size, 0, none⟩) n.toNat m.toNat, ?_, ?_, fun j hj => zeros_get _ _ _ hj, ?_⟩⟩
          · have hn1 : ¬ (n < 0) := by omega
            have hn2 : ¬ (m < n) := by omega
            have hm1 : ¬ (m < 0) := by omega
            have hm2 : ¬ (281474976710656 < (i.bytes : Int) * m) := by omega
            have hne : ¬ (m.toNat * i.size = 0) := by omega
            have hz0 := run_zeroValue (P := P) (w := w) hin hzv
            have hb : ((decide (m < 0) || decide ((i.bytes : Int) * m > 2 ^ 48)) || decide (n < 0) || decide (n > m)) = false := by rw [e48]; simp; omega
            simp only [Instr.makeSlice, Sem.run_bind, run_underlying hu, Result.andThen_ok, asInt, asIntOf, Sem.run_pure, run_typeInfo hin, i64_wrap (n := n) (by omega) (by omega), i64_wrap (n := m) (by omega) (by omega),
              hb, Bool.false_eq_true, if_false, run_askRoom, run_sizeOf_info hin, if_neg hne, hz0, newRow, run_newObj, hsz]
            rfl
          · have := zeros_len zv.cells.toList m.toNat; simpa using this
          · refine .os _ 0 _ _ _ (m.toNat * zv.cells.size) (by omega) ⟨_, _, _, heap_alc_new, by simp⟩ (by rw [hsz]; simp)
      · cases hv
end
end Go.Ab
/-! Ah: The yield of every operation that only computes, or makes a block; its soundness. -/
namespace Go.Ab
open Go.RowKit
def buildSliceSV (L : Option (TypeId × Nat × Nat)) (Z : Option (List Value)) (len : Nat) (ps : List (Nat × SV)) : VRes :=
  match L with
  | none => .bad
  | some (_, s, _) => match Z with
    | none => .bad
    | some z => match fillSV (fun i => some (i * s, s)) (zfill z len) ps with
      | some r => .new (z.length = s ∧ len * s ≤ 16777216 ∧ 0 < s) (.svs r) (fun b => .os b 0 len s)
      | none => .bad
def elemZ (P : Program) (t : TypeId) : Option (List Value) := match slk P t with | some (e, _, _) => zk P e | none => none
def boxSV (x : SV) : VRes := match svCells x with
  | some cs => .new True (.svs cs) (fun b => .op b 0)
  | none => .bad
def bldk (P : Program) (t : TypeId) : Bool := match P.underlying t with
  | some (.struct fs) => (match fs.toList with
    | [f0, f1] => (match P.underlying f0.type, P.underlying f1.type with
      | some (.pointer t'), some (.slice e) => Nat.beq t' t && (match ik P e with | some .u8 => true | _ => false)
      | _, _ => false)
    | _ => false)
  | _ => false
def allocSV (t : TypeId) (B : Bool) (Z : Option (List Value)) : VRes := match Z with
  | some z => (match B with | true => .new True (.svs (z.map ntOf)) (fun b => .opT b t z.length) | false => .new True (.svs (z.map .sc)) (fun b => .op b 0))
  | none => .bad
def pickSV (c a b : SV) : VRes := match c with
  | .sc (.bool t) => .ok True (bif t then a else b)
  | _ => .bad
def tupSV (x : SV) (i : Nat) : VRes := match x with
  | .tup cs => .ok (i < cs.length) (cs.getD i .any)
  | _ => .bad
def capSV (L : Option (TypeId × Nat × Nat)) (x : SV) : VRes := match L, x with
  | some _, .sc (.slice none _ c) => .ok True (.sc (.int .i64 c))
  | _, _ => .bad
def minSV (x y : SV) : VRes := match x, y with
  | .sc (.int k a), .sc (.int _ b) => .ok True (.sc (.int k (if b < a then b else a)))
  | _, _ => .bad
def maxSV (x y : SV) : VRes := match x, y with
  | .sc (.int k a), .sc (.int _ b) => .ok True (.sc (.int k (if a < b then b else a)))
  | _, _ => .bad
def valOp (P : Program) (op : Op) (ρ : Operand → SV) (h : Heap) : VRes :=
  match op with
  | .move x => .ok True (ρ x)
  | .assign x => .ok True (ρ x)
  | .pick c a b => pickSV (ρ c) (ρ a) (ρ b)
  | .binOp op t x y _ => binSV P op t (isC x || isC y) (ρ x) (ρ y)
  | .unOp op _ x => unSV op (ρ x)
  | .load t x => loadSV (tk P t) (ρ x) h
  | .indexAddr t x i => indexAddrSV (slk P t) (ark P t) (ρ x) (ρ i)
  | .index t x i => indexSV (isStr P t) (arn P t) (ρ x) (ρ i)
  | .fieldAddr s x f => fieldAddrSV (fdk P s f) (ρ x)
  | .field s x f => fieldSV (fdk P s f) (ρ x)
  | .extract x i => tupSV (ρ x) i
  | .nilCheck x => nilSV (ρ x)
  | .slice t x lo hi mx => sliceX (ark P t) (isStr P t) (slk P t) (ρ x) (lo.map ρ) (hi.map ρ) (mx.map ρ) h
  | .convert s d x => bif (P.underlying s).isSome then convX (bsl P s) (ik P d) (isStr P d) (ρ x) h else .bad
  | .box _ x => boxSV (ρ x)
  | .alloc e => allocSV e (bldk P e) (zk P e)
  | .build t ps => buildSV (flk P t) (ark P t) (zk P t) (ps.toList.map fun (i, x) => (i, ρ x))
  | .buildSlice t n ps => buildSliceSV (slk P t) (elemZ P t) n (ps.toList.map fun (i, x) => (i, ρ x))
  | .makeSlice t l c => makeSV (slk P t) (elemZ P t) (ρ l) (ρ c)
  | .makeFunc fn a c => .ok True (.fn fn (a.toList.map ρ) (c.toList.map ρ))
  | .lookup t x k ok => lookSV (mtk P t) ok (ρ x) (ρ k) h
  | .call { callee := .builtin .len, args := ⟨[x]⟩, argTypes := ⟨[t]⟩ } => lenSV (isStr P t) (slk P t) (ark P t) (ρ x)
  | .call { callee := .builtin .cap, args := ⟨[x]⟩, argTypes := ⟨[t]⟩ } => capSV (slk P t) (ρ x)
  | .call { callee := .builtin .min, args := ⟨[x, y]⟩, argTypes := _ } => minSV (ρ x) (ρ y)
  | .call { callee := .builtin .max, args := ⟨[x, y]⟩, argTypes := _ } => maxSV (ρ x) (ρ y)
  | _ => .bad
section
variable {P : Program} {M : Nat → Prop} {h : Heap} {w : World}
theorem fillLen [Gl] {place : Nat → Option (Nat × Nat)} : ∀ (ps : List (Nat × SV)) (l r : List SV), fillSV place l ps = some r → r.length = l.length
  | [], l, r, h => by cases h; rfl
  | (i, v) :: ps, l, r, h => by
    simp only [fillSV] at h
    split at h
    · rename_i off n cs _ _
      by_cases hb : cs.length = n ∧ off + n ≤ l.length
      · rw [if_pos hb] at h
        rw [fillLen ps _ _ h, length_setAll]
      · rw [if_neg hb] at h
        cases h
    · cases h
theorem buildSlice_sound [Gl] {t : TypeId} {n : Nat} {ps : List (Nat × SV)} {qs : Array (Nat × Value)} {pre : Prop} {k : Blk} {mk : Nat → SV} (hm : qs.toList.map (·.1) = ps.map (·.1))
    (hr : ∀ i, i < ps.length → Rep (envOf (hid M h) w) (qs.toList.getD i (0, undef)).2 (ps.getD i (0, .any)).2)
    (hv : buildSliceSV (slk P t) (elemZ P t) n ps = .new pre k mk) (hp : pre) : NewOK P M h w (Instr.buildSlice t n qs) k mk := by
  unfold buildSliceSV elemZ at hv
  cases hL : slk P t with
  | none => simp [hL] at hv
  | some x =>
    obtain ⟨e, s, bytes⟩ := x
    simp only [hL] at hv
    cases hZ : zk P e with
    | none => simp [hZ] at hv
    | some z =>
      simp only [hZ] at hv
      split at hv
      · rename_i r hf
        cases hv
        obtain ⟨h3, h4, h5⟩ := hp
        obtain ⟨i, hu, hin, rfl, rfl⟩ := slk_spec hL
        obtain ⟨i', zv, hi', hzv, rfl⟩ := zk_spec hZ
        rw [hin] at hi'; cases hi'
        have hsz : zv.cells.size = i.size := by simpa using h3
        have e24 : ¬ (n * i.size > 2 ^ 24) := by omega
        have hcell : ∀ j, j < (zfill zv.cells.toList n).length → Rep (envOf (hid M h) w) (((Array.range (n * zv.cells.size)).map (zv.cells[· % zv.cells.size]!)).getD j undef) ((zfill zv.cells.toList n).getD j .any) := fun j hj => by
          have hj' : j < n * zv.cells.size := by rw [length_zfill] at hj; simpa using hj
          rw [mkCells _ _ _ hj', getD_zfill _ _ _ (by simpa using hj')]
          rw [show zv.cells.toList.length = zv.cells.size by simp]
          exact .sc _
        obtain ⟨c', hc', hs', hr'⟩ := fill_sound ps qs.toList _ _ r hm hr (by rw [length_zfill]; simp) hcell hf
        refine ⟨rfl, ⟨c', e, .slice (some ⟨w.heap.size, 0, none⟩) n n, ?_, by simp only [Blk.len]; omega, hr', ?_⟩⟩
        · by_cases h0 : n * i.size = 0
          · have hn : n = 0 := by rcases Nat.mul_eq_zero.1 h0 with h | h <;> omega
            subst hn
            simp only [Nat.zero_mul, Array.range_zero'] at hc'
            rw [Nat.zero_mul] at e24
            simp only [Array.map_empty] at hc'
            simp only [Instr.buildSlice, Sem.run_bind, run_underlying hu, Result.andThen_ok, run_sizeOf_info hin, Sem.run_pure, Nat.zero_mul, if_neg e24, if_true, Array.range_zero', Array.map_empty]
            rw [hc']
            rfl
          · simp only [Instr.buildSlice, Sem.run_bind, run_underlying hu, Result.andThen_ok, run_sizeOf_info hin, if_neg e24, Sem.run_pure, if_neg h0, run_zeroValue hin hzv]
            rw [← hsz] at *
            rw [hc']
            rfl
        · have hlen : r.length = n * i.size := by
            have := fillLen _ _ _ hf
            rw [this, length_zfill]; simp [hsz]
          exact .os _ 0 _ _ _ c'.size (Nat.le_refl _) ⟨_, _, _, heap_alc_new, rfl, .inl rfl⟩ (by rw [hs', hlen]; simp)
      · cases hv
end
end Go.Ab
/-! Ai: Every operation that only computes, or makes a block: the model's run yields what is said. -/
namespace Go.Ab
open Go.RowKit
section
variable {P : Program} {M : Nat → Prop} {h : Heap} {w : World}
def asNext (x : Sem Value) : Sem Next := do pure (.value (← x))
theorem kkOf_spec {t : TypeId} {c : KK} (hc : kkOf P t = some c) : ∃ d, P.underlying t = some d ∧ (∀ a, kkOk c a = true → MapKept.IsKey d a) ∧ ∀ a b, Instr.sameNow d a b = sameC c a b := by
  unfold kkOf at hc
  split at hc
  · rename_i k hu
    cases hc
    refine ⟨_, hu, fun a ha => ?_, fun a b => ?_⟩
    · cases a <;> simp [kkOk] at ha
      exact ha
    · cases a <;> cases b <;> rfl
  · rename_i hu
    cases hc
    refine ⟨_, hu, fun a ha => ?_, fun a b => ?_⟩
    · cases a <;> simp [kkOk] at ha
      trivial
    · cases a <;> cases b <;> rfl
  · rename_i hu
    cases hc
    refine ⟨_, hu, fun a ha => ?_, fun a b => ?_⟩
    · cases a <;> simp [kkOk] at ha
      trivial
    · cases a <;> cases b <;> rfl
  · cases hc
theorem z1_spec {t : TypeId} {z : Value} (hz : z1 P t = some z) : (zeroValue t).run P w = .ok z w := by
  unfold z1 at hz
  split at hz
  · rename_i i hi
    split at hz
    all_goals first
      | (rename_i hv; cases hz; simp [zeroValue, run_typeInfo hi, hv]; done)
      | cases hz
  · cases hz
theorem mtk_spec {t : TypeId} {c : KK} {z : Value} (h : mtk P t = some (c, z)) : ∃ k e d, P.underlying t = some (.map k e) ∧ P.underlying k = some d ∧ (∀ a, kkOk c a = true → MapKept.IsKey d a) ∧
    (∀ a b, Instr.sameNow d a b = sameC c a b) ∧ ∀ w, (zeroValue e).run P w = .ok z w := by
  unfold mtk at h
  split at h
  · rename_i k e hu
    split at h
    · rename_i c' z' hc hz
      cases h
      obtain ⟨d, h1, h2, h3⟩ := kkOf_spec hc
      exact ⟨k, e, d, hu, h1, h2, h3, fun w => z1_spec hz⟩
    · cases h
  · cases h
theorem findNow_mfI {d : TypeDesc} {c : KK} (hs : ∀ a b, Instr.sameNow d a b = sameC c a b) (a : Value) : ∀ (es : List MapEntry) (i : Nat), Instr.findNow d a es i = mfI c a (es.map fun e => (e.key, e.val)) i
  | [], i => rfl
  | e :: es, i => by
    simp only [Instr.findNow, List.map_cons, mfI, hs, findNow_mfI hs a es]
    cases sameC c a e.key with
    | none => rfl
    | some b => cases b <;> rfl
theorem run_look {t k e : TypeId} {d : TypeDesc} {c : KK} {z a : Value} {b : Nat} {es : Array MapEntry} {ck : Nat} (hu : P.underlying t = some (.map k e)) (hd : P.underlying k = some d) (hk : MapKept.IsKey d a)
    (hs : ∀ a b, Instr.sameNow d a b = sameC c a b) (hz : ∀ w, (zeroValue e).run P w = .ok z w) (hb : w.heap[b]? = some (.map es ck)) {r : Option (Nat × Value)}
    (hf : mfI c a (es.toList.map fun e => (e.key, e.val)) 0 = some r) (ok : Bool) :
    (Instr.lookup t (.map (some b)) a ok).run P w = .ok (bif ok then .tuple #[(match r with | some (_, v) => v | none => z), .bool r.isSome] else (match r with | some (_, v) => v | none => z)) w := by
  have h1 := MapKept.run_findKey (w := w) hd (show Instr.findNow d a es.toList 0 = some r by rw [findNow_mfI hs]; exact hf)
  unfold Instr.lookup
  simp only [Sem.run_bind, run_underlying hu, Result.andThen_ok, MapKept.run_getObj_map hb, Sem.run_pure, MapKept.run_checkKey hd hk, h1]
  cases r with
  | none => cases ok <;> simp [hz]
  | some p => cases ok <;> simp
theorem look_sound [Gl] {t : TypeId} {u u' : Value} {ok : Bool} {x k v : SV} {pre : Prop} (own : Owns M h w) (hx : Rep (envOf (hid M h) w) u x) (hk : Rep (envOf (hid M h) w) u' k)
    (hv : lookSV (mtk P t) ok x k h = .ok pre v) : ∃ r, (Instr.lookup t u u' ok).run P w = .ok r w ∧ Rep (envOf (hid M h) w) r v := by
  unfold lookSV at hv
  split at hv
  · rename_i c z b a hT
    split at hv
    · rename_i l hf
      cases ha : kkOk c a with
      | false => rw [ha] at hv; cases hv
      | true =>
        rw [ha] at hv
        simp only [cond_true] at hv
        cases hx
        cases hk
        obtain ⟨kt, e, d, h1, h2, h3, h4, h5⟩ := mtk_spec hT
        obtain ⟨es, ck, hb, rfl⟩ := own.mp b l (Heap.find_mem hf)
        unfold lookR at hv
        split at hv
        · rename_i j vv hm
          cases hv
          refine ⟨_, run_look h1 h2 (h3 _ ha) h4 h5 hb hm ok, ?_⟩
          cases ok
          · exact .sc _
          · exact .tup _ _ rfl fun j hj => by
              rcases (by simp at hj; omega : j = 0 ∨ j = 1) with rfl | rfl
              · exact .sc _
              · exact .sc _
        · rename_i hm
          cases hv
          refine ⟨_, run_look h1 h2 (h3 _ ha) h4 h5 hb hm ok, ?_⟩
          cases ok
          · exact .sc _
          · exact .tup _ _ rfl fun j hj => by
              rcases (by simp at hj; omega : j = 0 ∨ j = 1) with rfl | rfl
              · exact .sc _
              · exact .sc _
        · cases hv
    · cases hv
  · cases hv
theorem look_notnew {T : Option (KK × Value)} {ok : Bool} {x y : SV} (pre : Prop) (k : Blk) (mk : Nat → SV) (h : Heap) : lookSV T ok x y h ≠ .new pre k mk := by
  unfold lookSV
  have nb : ∀ (q : Bool) (r : VRes), r ≠ .new pre k mk → (bif q then r else .bad) ≠ .new pre k mk := fun q r hr => by
    cases q
    · exact fun e => by cases e
    · exact hr
  split
  · split
    · refine nb _ _ ?_
      unfold lookR
      split <;> exact fun e => by cases e
    · exact fun e => by cases e
  · exact fun e => by cases e
theorem run_asNext {x : Sem Value} {r : Value} {w' : World} (hx : x.run P w = .ok r w') : (asNext x).run P w = .ok (.value r) w' := by
  simp [asNext, hx]
theorem pairs_map {σ : Operand → Value} (ps : Array (Nat × Operand)) (ρ : Operand → SV) : (ps.map fun (i, x) => (i, σ x)).toList.map (·.1) = (ps.toList.map fun (i, x) => (i, ρ x)).map (·.1) := by
  simp [Function.comp_def]
theorem pairs_rep {E : Env} {σ : Operand → Value} {ρ : Operand → SV} (hr : ∀ x, Rep E (σ x) (ρ x)) (ps : Array (Nat × Operand)) :
    ∀ i, i < (ps.toList.map fun (i, x) => (i, ρ x)).length → Rep E ((ps.map fun (i, x) => (i, σ x)).toList.getD i (0, undef)).2 ((ps.toList.map fun (i, x) => (i, ρ x)).getD i (0, .any)).2 := by
  intro i hi
  simp only [List.length_map, Array.length_toList] at hi
  simp only [Array.toList_map, List.getD_eq_getElem?_getD, List.getElem?_map, Array.getElem?_toList, Array.getElem?_eq_getElem hi, Option.map_some, Option.getD_some]
  exact hr _
theorem ops_rep [Gl] {E : Env} {σ : Operand → Value} {ρ : Operand → SV} (hr : ∀ x, Rep E (σ x) (ρ x)) (xs : Array Operand) :
    (xs.map σ).size = (xs.toList.map ρ).length ∧ ∀ i, i < (xs.toList.map ρ).length → Rep E ((xs.map σ).getD i undef) ((xs.toList.map ρ).getD i .any) := by
  refine ⟨by simp, fun i hi => ?_⟩
  simp only [List.length_map, Array.length_toList] at hi
  rw [getD_toList]
  simp only [Array.toList_map, List.getD_eq_getElem?_getD, List.getElem?_map, Array.getElem?_toList, Array.getElem?_eq_getElem hi, Option.map_some, Option.getD_some]
  exact hr _
theorem orep {E : Env} {σ : Operand → Value} {ρ : Operand → SV} (hr : ∀ x, Rep E (σ x) (ρ x)) (o : Option Operand) : ORep E (o.map σ) (o.map ρ) := by
  cases o with
  | none => trivial
  | some x => exact hr x
theorem valOp_ok [Gl] {o : Oper} {σ : Operand → Value} {ρ : Operand → SV} {pre : Prop} {v : SV} (own : Owns M h w) (hr : ∀ x, Rep (envOf (hid M h) w) (σ x) (ρ x))
    (hv : valOp P o.op ρ h = .ok pre v) (hp : pre) : ∃ r, (execOp σ o).run P w = .ok (.value r) w ∧ Rep (envOf (hid M h) w) r v := by
  obtain ⟨dst, op, type, pos, after, guard⟩ := o
  simp only at hv
  have via : ∀ {x : Sem Value}, (∃ r, x.run P w = .ok r w ∧ Rep (envOf (hid M h) w) r v) → ∃ r, (asNext x).run P w = .ok (.value r) w ∧ Rep (envOf (hid M h) w) r v :=
    fun ⟨r, h1, h2⟩ => ⟨r, run_asNext h1, h2⟩
  unfold valOp at hv
  split at hv
  · rename_i x; cases hv; exact ⟨_, rfl, hr x⟩
  · rename_i x; cases hv; exact ⟨_, rfl, hr x⟩
  · rename_i c a b
    have hc := hr c
    unfold pickSV at hv
    split at hv
    · rename_i t ht
      cases hv
      rw [ht] at hc
      generalize hcv : σ c = cv at hc
      cases hc
      refine ⟨if t then σ a else σ b, by simp [execOp, hcv, asBool], ?_⟩
      cases t
      · exact hr b
      · exact hr a
    · cases hv
  · exact via (bin_sound (hr _) (hr _) hv hp)
  · exact via (un_sound (hr _) hv)
  · exact via (load_sound own (hr _) hv hp)
  · exact via (indexAddr_sound (hr _) (hr _) hv hp)
  · exact via (index_sound (hr _) (hr _) hv hp)
  · exact via (fieldAddr_sound (hr _) hv hp)
  · exact via (field_sound (hr _) hv hp)
  · rename_i x i
    unfold tupSV at hv
    split at hv
    · rename_i cs ht
      cases hv
      exact via (tup_sound (ht ▸ hr x) hp)
    · cases hv
  · rename_i x
    unfold nilSV at hv
    have hx := hr x
    split at hv
    · rename_i cs ht
      cases hv
      rw [ht] at hx
      generalize hxv : σ x = xv at hx
      cases hx with
      | fp b off _ val hs hh => exact ⟨.pointer (some ⟨b, off, none⟩), by simp [execOp, hxv], .fp _ _ _ val hs hh⟩
    · rename_i b0 o0 ht
      cases hv
      rw [ht] at hx
      generalize hxv : σ x = xv at hx
      cases hx with
      | op b off => exact ⟨.pointer (some ⟨b0, o0, none⟩), by simp [execOp, hxv], .op _ _⟩
    · rename_i f a c ht
      cases hv
      rw [ht] at hx
      generalize hxv : σ x = xv at hx
      cases hx with
      | fn _ c1 c2 _ _ l1 l2 h1 h2 => exact ⟨.func (.func f) c1 c2, by simp [execOp, hxv], .fn _ _ _ _ _ l1 l2 h1 h2⟩
    · rename_i b0 e0 n0 ht
      cases hv
      rw [ht] at hx
      generalize hxv : σ x = xv at hx
      cases hx with
      | opT _ _ _ _ => exact ⟨.pointer (some ⟨b0, 0, none⟩), by simp [execOp, hxv], .op _ _⟩
    · cases hv
  · rename_i t x lo hi mx
    cases hA : ark P t with
    | some a =>
      obtain ⟨n, sz⟩ := a
      rw [hA] at hv
      cases mx with
      | some m => simp [sliceX, arrSl] at hv
      | none => exact via (arrSl_sound own hA (hr x) (orep hr lo) (orep hr hi) hv hp)
    | none =>
      rw [hA] at hv
      cases mx with
      | some m => exact via (slice3_sound (hr x) (orep hr lo) (orep hr hi) (hr m) hv hp)
      | none => exact via (slice_sound (hr x) (orep hr lo) (orep hr hi) hv hp)
  · rename_i s d x
    by_cases hs : (P.underlying s).isSome = true
    · rw [hs] at hv
      exact via (cvt_sound own hs (hr x) hv hp)
    · simp only [Bool.not_eq_true] at hs
      rw [hs] at hv
      cases hv
  · rename_i e x; unfold boxSV at hv; split at hv <;> cases hv
  · rename_i e
    unfold allocSV at hv
    split at hv
    · split at hv <;> cases hv
    · cases hv
  · rename_i t ps
    exact via (build_sound (pairs_map ps ρ) (pairs_rep hr ps) hv)
  · rename_i t n ps
    unfold buildSliceSV at hv
    split at hv
    · cases hv
    · split at hv
      · cases hv
      · split at hv <;> cases hv
  · unfold makeSV at hv; split at hv <;> cases hv
  · rename_i fn a c
    cases hv
    obtain ⟨a1, a2⟩ := ops_rep hr a
    obtain ⟨c1, c2⟩ := ops_rep hr c
    exact ⟨.func fn (a.map σ) (c.map σ), rfl, .fn _ _ _ _ _ a1 c1 a2 c2⟩
  · exact via (look_sound own (hr _) (hr _) hv)
  · rename_i x t
    obtain ⟨r, h1, h2⟩ := len_sound (t := t) (ty := type) (hr x) hv hp
    refine ⟨r, ?_, h2⟩
    simp [execOp, resolve, invoke, builtin, h1]
  · rename_i x t
    unfold capSV at hv
    split at hv
    · rename_i q l c heq h1
      cases hv
      have hx := hr x
      obtain ⟨e, s, b⟩ := q
      obtain ⟨i, hu, -, -, -⟩ := slk_spec heq
      rw [h1] at hx
      generalize hxv : σ x = xv at hx
      cases hx
      refine ⟨_, ?_, .sc _⟩
      simp [execOp, resolve, invoke, builtin, hxv, Builtin.cap_, run_underlying hu, goInt]
    · cases hv
  · rename_i x y at'
    unfold minSV at hv
    split at hv
    · rename_i k a k' b h1 h2
      cases hv
      have hx := hr x
      have hy := hr y
      rw [h1] at hx
      rw [h2] at hy
      generalize hxv : σ x = xv at hx
      generalize hyv : σ y = yv at hy
      cases hx; cases hy
      refine ⟨.int k (if b < a then b else a), ?_, .sc _⟩
      simp [execOp, resolve, invoke, builtin, hxv, hyv, Builtin.min_, Builtin.min2]
    · cases hv
  · rename_i x y at'
    unfold maxSV at hv
    split at hv
    · rename_i k a k' b h1 h2
      cases hv
      have hx := hr x
      have hy := hr y
      rw [h1] at hx
      rw [h2] at hy
      generalize hxv : σ x = xv at hx
      generalize hyv : σ y = yv at hy
      cases hx; cases hy
      refine ⟨.int k (if a < b then b else a), ?_, .sc _⟩
      simp [execOp, resolve, invoke, builtin, hxv, hyv, Builtin.max_, Builtin.max2]
    · cases hv
  · cases hv
theorem valOp_new [Gl] {o : Oper} {σ : Operand → Value} {ρ : Operand → SV} {pre : Prop} {k : Blk} {mk : Nat → SV} (hr : ∀ x, Rep (envOf (hid M h) w) (σ x) (ρ x))
    (hv : valOp P o.op ρ h = .new pre k mk) (hp : pre) : ∃ x, execOp σ o = asNext x ∧ NewOK P M h w x k mk := by
  obtain ⟨dst, op, type, pos, after, guard⟩ := o
  simp only at hv
  unfold valOp at hv
  split at hv
  all_goals try (cases hv; done)
  · unfold pickSV at hv; split at hv <;> cases hv
  · unfold binSV at hv
    split at hv
    · unfold binII at hv; split at hv <;> cases hv
    · unfold binSS at hv; split at hv <;> cases hv
    · unfold binBB at hv; split at hv <;> cases hv
    · unfold binAA at hv
      split at hv
      · split at hv <;> cases hv
      · split at hv <;> cases hv
      · cases hv
    · unfold binNil at hv; split at hv <;> cases hv
    · unfold binNil at hv; split at hv <;> cases hv
    · unfold binNil at hv; split at hv <;> cases hv
    · unfold binSl at hv; split at hv <;> cases hv
    · unfold binSl at hv; split at hv <;> cases hv
    · cases hv
  · unfold unSV at hv; split at hv <;> cases hv
  · unfold loadSV at hv
    split at hv
    · cases hv
    · cases hv
    · split at hv <;> cases hv
    · split at hv <;> cases hv
    · cases hv
  · unfold indexAddrSV at hv
    split at hv
    · split at hv
      · split at hv <;> cases hv
      · split at hv <;> cases hv
      · split at hv <;> cases hv
      · split at hv <;> cases hv
      · cases hv
    · cases hv
  · unfold indexSV at hv
    split at hv
    · cases hv
    · unfold indexAr at hv; split at hv <;> cases hv
    · cases hv
  · unfold fieldAddrSV at hv; split at hv <;> cases hv
  · unfold fieldSV at hv; split at hv <;> cases hv
  · unfold tupSV at hv; split at hv <;> cases hv
  · unfold nilSV at hv; split at hv <;> cases hv
  · rename_i t x lo hi mx
    replace hv := sliceX_new hv
    unfold sliceSV at hv
    split at hv
    · split at hv
      · cases hv
      · split at hv
        · split at hv <;> cases hv
        · split at hv <;> cases hv
        · cases hv
    · split at hv
      · split at hv <;> cases hv
      · split at hv <;> cases hv
      · split at hv <;> cases hv
      · split at hv <;> cases hv
      · cases hv
  · rename_i s d x
    by_cases hs : (P.underlying s).isSome = true
    · rw [hs] at hv
      simp only [cond_true] at hv
      replace hv := convX_new hv
      unfold convSV at hv
      split at hv
      · split at hv
        · cases hv
        · cases hx : isStr P d <;> rw [hx] at hv <;> cases hv
      · cases hx : isStr P d <;> rw [hx] at hv <;> cases hv
      · cases hv
    · simp only [Bool.not_eq_true] at hs
      rw [hs] at hv
      cases hv
  · rename_i e x
    unfold boxSV at hv
    split at hv
    · rename_i cs hc
      cases hv
      exact ⟨_, rfl, box_sound (hr x) hc⟩
    · cases hv
  · rename_i e
    unfold allocSV at hv
    split at hv
    · rename_i z hz
      split at hv
      · cases hv
        exact ⟨_, rfl, allocT_sound hz⟩
      · cases hv
        exact ⟨_, rfl, alloc_sound hz⟩
    · cases hv
  · rename_i t ps
    unfold buildSV at hv
    split at hv
    · cases hv
    · split at hv
      · split at hv <;> cases hv
      · split at hv
        · split at hv <;> cases hv
        · cases hv
  · rename_i t n ps
    exact ⟨_, rfl, buildSlice_sound (pairs_map ps ρ) (pairs_rep hr ps) hv hp⟩
  · rename_i t l c
    exact ⟨_, rfl, make_sound (hr l) (hr c) hv hp⟩
  · exact absurd hv (look_notnew _ _ _ _)
  · unfold lenSV at hv
    split at hv
    · split at hv <;> cases hv
    · split at hv <;> cases hv
    · split at hv <;> cases hv
    · split at hv <;> cases hv
    · split at hv <;> cases hv
    · cases hv
    · split at hv <;> cases hv
  · unfold capSV at hv; split at hv <;> cases hv
  · unfold minSV at hv; split at hv <;> cases hv
  · unfold maxSV at hv; split at hv <;> cases hv
end
end Go.Ab
