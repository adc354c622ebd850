/- The abstract layer: values as an activation sees them, frozen or owned, and how a world bears them out. -/
import Derived.Tactics
import Derived.Still
import Derived.Below
namespace Go.Ab
open Go.RowKit

/-- What is known of a Go value. -/
inductive SV where
  | any
  | sc (v : Value)
  | fl (n sz : Nat) (f : Nat → List SV)
  | fp (cs : List SV)
  | agg (cs : List SV)
  | tup (cs : List SV)
  | os (b off len sz : Nat)
  | op (b off : Nat)
  | fn (g : Fn) (first captured : List SV)

instance : Inhabited SV := ⟨.any⟩

/-- What can be seen of a world: cells, and the sizes of blocks. -/
structure Env where
  see : Addr → Value → Prop
  size : Nat → Nat → Prop

structure Env.le (E E' : Env) : Prop where
  see : ∀ a v, E.see a v → E'.see a v
  size : ∀ b m, E.size b m → E'.size b m

theorem Env.le.refl (E : Env) : E.le E := ⟨fun _ _ h => h, fun _ _ h => h⟩
theorem Env.le.trans {E E' E'' : Env} (h : E.le E') (h' : E'.le E'') : E.le E'' :=
  ⟨fun a v x => h'.see a v (h.see a v x), fun b m x => h'.size b m (h.size b m x)⟩

/-- A value is what is said of it. -/
inductive Rep (E : Env) : Value → SV → Prop where
  | any (v : Value) : Rep E v .any
  | sc (v : Value) : Rep E v (.sc v)
  | fl0 (a : Option Addr) (cap sz : Nat) (f : Nat → List SV) : Rep E (.slice a 0 cap) (.fl 0 sz f)
  | fl (b off n cap sz : Nat) (f : Nat → List SV) (val : Nat → Nat → Value) (hc : n ≤ cap) (hl : ∀ i, i < n → (f i).length = sz)
      (hs : ∀ i, i < n → ∀ j, j < sz → E.see ⟨b, off + i * sz + j, none⟩ (val i j))
      (hr : ∀ i, i < n → ∀ j, j < sz → Rep E (val i j) ((f i).getD j .any)) : Rep E (.slice (some ⟨b, off, none⟩) n cap) (.fl n sz f)
  | fp (b off : Nat) (cs : List SV) (val : Nat → Value) (hs : ∀ j, j < cs.length → E.see ⟨b, off + j, none⟩ (val j))
      (hr : ∀ j, j < cs.length → Rep E (val j) (cs.getD j .any)) : Rep E (.pointer (some ⟨b, off, none⟩)) (.fp cs)
  | agg (c : Array Value) (cs : List SV) (hl : c.size = cs.length) (hr : ∀ j, j < cs.length → Rep E (c.getD j undef) (cs.getD j .any)) : Rep E (.agg c) (.agg cs)
  | tup (c : Array Value) (cs : List SV) (hl : c.size = cs.length) (hr : ∀ j, j < cs.length → Rep E (c.getD j undef) (cs.getD j .any)) : Rep E (.tuple c) (.tup cs)
  | os (b off len cap sz m : Nat) (hc : len ≤ cap) (hm : E.size b m) (hb : off + cap * sz ≤ m) : Rep E (.slice (some ⟨b, off, none⟩) len cap) (.os b off len sz)
  | op (b off : Nat) : Rep E (.pointer (some ⟨b, off, none⟩)) (.op b off)
  | fn (g : Fn) (c1 c2 : Array Value) (s1 s2 : List SV) (l1 : c1.size = s1.length) (l2 : c2.size = s2.length)
      (h1 : ∀ j, j < s1.length → Rep E (c1.getD j undef) (s1.getD j .any)) (h2 : ∀ j, j < s2.length → Rep E (c2.getD j undef) (s2.getD j .any)) : Rep E (.func g c1 c2) (.fn g s1 s2)

theorem Rep.mono {E E' : Env} (hE : E.le E') {v : Value} {s : SV} (h : Rep E v s) : Rep E' v s := by
  induction h with
  | any v => exact .any v
  | sc v => exact .sc v
  | fl0 a cap sz f => exact .fl0 a cap sz f
  | fl b off n cap sz f val hc hl hs hr ih => exact .fl b off n cap sz f val hc hl (fun i hi j hj => hE.see _ _ (hs i hi j hj)) ih
  | fp b off cs val hs hr ih => exact .fp b off cs val (fun j hj => hE.see _ _ (hs j hj)) ih
  | agg c cs hl hr ih => exact .agg c cs hl ih
  | tup c cs hl hr ih => exact .tup c cs hl ih
  | os b off len cap sz m hc hm hb => exact .os b off len cap sz m hc (hE.size _ _ hm) hb
  | op b off => exact .op b off
  | fn g c1 c2 s1 s2 l1 l2 h1 h2 i1 i2 => exact .fn g c1 c2 s1 s2 l1 l2 i1 i2

/-- The content of an owned block. -/
inductive Blk where
  | svs (cs : List SV)
  | ints (k : IntKind) (l : List Int)
  | bools (l : List Bool)

def Blk.cells : Blk → List SV
  | .svs cs => cs
  | .ints k l => l.map fun n => .sc (.int k n)
  | .bools l => l.map fun b => .sc (.bool b)

def Blk.len : Blk → Nat
  | .svs cs => cs.length
  | .ints _ l => l.length
  | .bools l => l.length

def Blk.get : Blk → Nat → SV
  | .svs cs, i => cs.getD i .any
  | .ints k l, i => .sc (.int k (l.getD i 0))
  | .bools l, i => .sc (.bool (l.getD i false))

def Blk.set : Blk → Nat → SV → Blk
  | .svs cs, i, v => .svs (cs.set i v)
  | .ints k l, i, .sc (.int k' n) => if k' = k then .ints k (l.set i n) else .svs ((Blk.cells (.ints k l)).set i (.sc (.int k' n)))
  | .bools l, i, .sc (.bool b) => .bools (l.set i b)
  | b, i, v => .svs (b.cells.set i v)

theorem Blk.length_cells (b : Blk) : b.cells.length = b.len := by cases b <;> simp [Blk.cells, Blk.len]

theorem Blk.get_cells (b : Blk) (i : Nat) (h : i < b.len) : b.cells.getD i .any = b.get i := by
  cases b with
  | svs cs => rfl
  | ints k l => simp only [Blk.len] at h; simp [Blk.cells, Blk.get, List.getD_eq_getElem?_getD, List.getElem?_map, List.getElem?_eq_getElem h]
  | bools l => simp only [Blk.len] at h; simp [Blk.cells, Blk.get, List.getD_eq_getElem?_getD, List.getElem?_map, List.getElem?_eq_getElem h]

theorem Blk.cells_set (b : Blk) (i : Nat) (v : SV) : (b.set i v).cells = b.cells.set i v := by
  cases b with
  | svs cs => rfl
  | ints k l =>
    cases v with
    | sc x =>
      cases x with
      | int k' n =>
        by_cases hk : k' = k
        · subst hk; simp [Blk.set, Blk.cells, List.map_set]
        · simp [Blk.set, hk, Blk.cells]
      | _ => rfl
    | _ => rfl
  | bools l =>
    cases v with
    | sc x =>
      cases x with
      | bool c => simp [Blk.set, Blk.cells, List.map_set]
      | _ => rfl
    | _ => rfl

theorem Blk.len_set (b : Blk) (i : Nat) (v : SV) : (b.set i v).len = b.len := by
  rw [← Blk.length_cells, Blk.cells_set, List.length_set, Blk.length_cells]

abbrev Heap := List (Nat × Blk)

def Heap.find (h : Heap) (b : Nat) : Option Blk := match h with
  | [] => none
  | (c, k) :: r => if c = b then some k else Heap.find r b

def Heap.upd (h : Heap) (b : Nat) (k : Blk) : Heap := match h with
  | [] => []
  | (c, k') :: r => if c = b then (c, k) :: r else (c, k') :: Heap.upd r b k

def Heap.del (h : Heap) (b : Nat) : Heap := match h with
  | [] => []
  | (c, k') :: r => if c = b then r else (c, k') :: Heap.del r b

def Heap.has (h : Heap) (b : Nat) : Prop := ∃ k, (b, k) ∈ h

/-- An activation's state. -/
structure St where
  t : List (Nat × SV)
  h : Heap

def look (t : List (Nat × SV)) (i : Nat) : SV := match t with
  | [] => .any
  | (j, v) :: r => bif Nat.beq j i then v else look r i

def St.put (S : St) (d : Option Tmp) (v : SV) : St := match d with
  | some d => ⟨(d, v) :: S.t, S.h⟩
  | none => S

def St.ev (S : St) : Operand → SV
  | .tmp i => look S.t i
  | .const v => .sc v
  | .global _ => .any
  | .func f => .fn (.func f) [] []

def HasSize (w : World) (b m : Nat) : Prop := ∃ c e fr, w.heap[b]? = some (.cells c e fr) ∧ c.size = m

def envOf (X : Nat → Prop) (w : World) : Env := { see := fun a v => ¬ X a.block ∧ w.cell? a = some v, size := HasSize w }

def hid (M : Nat → Prop) (h : Heap) : Nat → Prop := fun b => M b ∨ h.has b

/-- The owned blocks are there, nobody else sees them, and they hold what is said of them. -/
structure Owns (M : Nat → Prop) (h : Heap) (w : World) : Prop where
  nodup : (h.map (·.1)).Nodup
  notM : ∀ b, h.has b → ¬ M b
  lt : ∀ b, M b → b < w.heap.size
  ok : ∀ b k, (b, k) ∈ h → ∃ c e, w.heap[b]? = some (.cells c e (0, 0)) ∧ k.len ≤ c.size ∧ ∀ i, i < k.len → Rep (envOf (hid M h) w) (c.getD i undef) (k.get i)

/-- What a stretch of a run leaves of the world: blocks outside D stay, all sizes stay. -/
structure Frm (D : Nat → Prop) (w w' : World) : Prop where
  size : w.heap.size ≤ w'.heap.size
  keep : ∀ b, b < w.heap.size → ¬ D b → w'.heap[b]? = w.heap[b]?
  sizes : ∀ b m, HasSize w b m → HasSize w' b m
  os : w'.os = w.os
  tape : w'.tape = w.tape
  output : w'.output = w.output

theorem Frm.refl (D : Nat → Prop) (w : World) : Frm D w w := ⟨Nat.le_refl _, fun _ _ _ => rfl, fun _ _ h => h, rfl, rfl, rfl⟩

theorem Frm.trans {D D' : Nat → Prop} {w w1 w2 : World} (h : Frm D w w1) (h' : Frm D' w1 w2) (hD : ∀ b, b < w.heap.size → D' b → D b) : Frm D w w2 where
  size := Nat.le_trans h.size h'.size
  keep := fun b hb hd => (h'.keep b (Nat.lt_of_lt_of_le hb h.size) (fun x => hd (hD b hb x))).trans (h.keep b hb hd)
  sizes := fun b m x => h'.sizes b m (h.sizes b m x)
  os := h'.os.trans h.os
  tape := h'.tape.trans h.tape
  output := h'.output.trans h.output

theorem Frm.below {D : Nat → Prop} {w w' : World} (h : Frm D w w') (hD : ∀ b, b < w.heap.size → ¬ D b) : Below w.heap.size w w' :=
  ⟨h.os, h.tape, h.output, h.size, fun k hk => h.keep k hk (hD k hk)⟩

theorem cell_of_block {w w' : World} {a : Addr} (h : w'.heap[a.block]? = w.heap[a.block]?) : w'.cell? a = w.cell? a := by
  simp [World.cell?, h]

theorem lt_of_cell {w : World} {a : Addr} {v : Value} (h : w.cell? a = some v) : a.block < w.heap.size := by
  unfold World.cell? at h
  rcases Nat.lt_or_ge a.block w.heap.size with h' | h'
  · exact h'
  · rw [Array.getElem?_eq_none h'] at h; cases h

/-- What was seen is seen: the blocks that turn were hidden before, and what is hidden now was so or is new. -/
theorem env_le {X X' D : Nat → Prop} {w w' : World} (f : Frm D w w') (hD : ∀ b, D b → b < w.heap.size → X b) (hX : ∀ b, b < w.heap.size → X' b → X b) :
    (envOf X w).le (envOf X' w') where
  see := fun a v ⟨h1, h2⟩ => by
    have hlt := lt_of_cell h2
    refine ⟨fun x => h1 (hX _ hlt x), ?_⟩
    rw [cell_of_block (f.keep _ hlt (fun d => h1 (hD _ d hlt)))]
    exact h2
  size := fun b m h => f.sizes b m h

theorem look_cons (j : Nat) (v : SV) (r : List (Nat × SV)) (i : Nat) : look ((j, v) :: r) i = bif Nat.beq j i then v else look r i := rfl

/-- The activation's frame and the world are as the state says; 'w0' the world of its beginning, 'D' the blocks that it was handed to own. -/
structure Rel (M : Nat → Prop) (w0 : World) (D : Nat → Prop) (N : Nat) (S : St) (a : Act) (w : World) : Prop where
  defers : a.defers = []
  n : a.tmps.size = N
  t : ∀ i, Rep (envOf (hid M S.h) w) (a.tmps.getD i undef) (look S.t i)
  own : Owns M S.h w
  frm : Frm D w0 w
  new : ∀ b, S.h.has b → b < w0.heap.size → D b

theorem Rel.ev {M : Nat → Prop} {w0 : World} {D : Nat → Prop} {N : Nat} {S : St} {a : Act} {w : World} (h : Rel M w0 D N S a w) (x : Operand) :
    Rep (envOf (hid M S.h) w) (a.eval x) (S.ev x) := by
  cases x with
  | tmp i => exact h.t i
  | const v => exact .sc v
  | global g => exact .any _
  | func f => exact .fn _ #[] #[] [] [] rfl rfl (fun j hj => absurd hj (by simp)) (fun j hj => absurd hj (by simp))

/-- One temporary more is known; owned blocks and world may have moved on. -/
theorem Rel.put {M : Nat → Prop} {w0 : World} {D : Nat → Prop} {N : Nat} {S : St} {a : Act} {w : World} (h : Rel M w0 D N S a w)
    {d : Option Tmp} (hd : ∀ i, d = some i → i < N) {v : Value} {s : SV} (hv : Rep (envOf (hid M S.h) w) v s) : Rel M w0 D N (S.put d s) (a.put d v) w := by
  cases d with
  | none => exact h
  | some d =>
    refine ⟨h.defers, by simpa [Act.put] using h.n, fun i => ?_, h.own, h.frm, h.new⟩
    have hlt : d < a.tmps.size := by rw [h.n]; exact hd d rfl
    show Rep _ ((a.tmps.setIfInBounds d v).getD i undef) (look ((d, s) :: S.t) i)
    rw [look_cons]
    by_cases hi : d = i
    · subst hi
      simp [hlt]
      exact hv
    · have hb : Nat.beq d i = false := by rw [← Bool.not_eq_true, Nat.beq_eq]; exact hi
      rw [hb]
      simp only [cond_false]
      have := h.t i
      simpa [St.put, Array.getElem?_setIfInBounds_ne hi] using this

/-- The world moves on, new blocks are owned, none is given up. -/
theorem Rel.move {M : Nat → Prop} {w0 : World} {D : Nat → Prop} {N : Nat} {S : St} {a : Act} {w w' : World} {h' : Heap} (h : Rel M w0 D N S a w)
    {D' : Nat → Prop} (f : Frm D' w w') (hD : ∀ b, D' b → b < w.heap.size → S.h.has b) (own : Owns M h' w')
    (hh : ∀ b, b < w.heap.size → h'.has b → S.h.has b) : Rel M w0 D N ⟨S.t, h'⟩ a w' where
  defers := h.defers
  n := h.n
  t := fun i => (h.t i).mono (env_le f (fun b x y => .inr (hD b x y)) (fun b hb x => x.imp id (hh b hb)))
  own := own
  frm := h.frm.trans f (fun b hb x => h.new b (hD b x (Nat.lt_of_lt_of_le hb h.frm.size)) hb)
  new := fun b hb hlt => h.new b (hh b (Nat.lt_of_lt_of_le hlt h.frm.size) hb) hlt

end Go.Ab
/- What each operation yields, in the abstract layer, and that the model's operation yields just this. -/
namespace Go.Ab
open Go.RowKit

/-! ### what the tables say of a type -/
def tk (P : Program) (t : TypeId) : Option (Bool × Nat) :=
  match P.underlying t, P.info? t with
  | some (.struct _), some i => some (true, i.size)
  | some (.array _ _), some i => some (true, i.size)
  | some _, some i => some (false, i.size)
  | _, _ => none
def slk (P : Program) (t : TypeId) : Option (TypeId × Nat × Nat) :=
  match P.underlying t with
  | some (.slice e) => match P.info? e with
    | some i => some (e, i.size, i.bytes)
    | none => none
  | _ => none
def ark (P : Program) (t : TypeId) : Option (Nat × Nat) :=
  match P.underlying t with
  | some (.array n e) => match P.info? e with
    | some i => some (n, i.size)
    | none => none
  | _ => none
def fdk (P : Program) (s : TypeId) (i : Nat) : Option (Nat × Bool × Nat) :=
  match P.underlying s with
  | some (.struct fs) => match fs[i]? with
    | some f => match tk P f.type with
      | some (g, n) => some (f.offset, g, n)
      | none => none
    | none => none
  | _ => none
def ik (P : Program) (t : TypeId) : Option IntKind :=
  match P.underlying t with
  | some (.int k) => some k
  | _ => none
def zk (P : Program) (t : TypeId) : Option (List Value) :=
  match P.info? t with
  | some i => match i.zero with
    | some v => some v.cells.toList
    | none => none
  | none => none
def isStr (P : Program) (t : TypeId) : Bool := match P.underlying t with | some .string => true | _ => false
def isBool (P : Program) (t : TypeId) : Bool := match P.underlying t with | some .bool => true | _ => false

/-- One cell's value, for certain. -/
def single : SV → Bool
  | .sc (.agg _) => false
  | .sc (.tuple _) => false
  | .sc _ => true
  | .fl _ _ _ => true
  | .fp _ => true
  | .os _ _ _ _ => true
  | .op _ _ => true
  | .fn _ _ _ => true
  | _ => false

/-- The cells of a value. -/
def svCells : SV → Option (List SV)
  | .agg cs => bif cs.all single then some cs else none
  | v => bif single v then some [v] else none

inductive VRes where
  | bad
  | ok (pre : Prop) (v : SV)
  | new (pre : Prop) (k : Blk) (mk : Nat → SV)

def binII (op : BinOp) (k : IntKind) (a : Int) (k' : IntKind) (b : Int) : VRes :=
  match op with
  | .shl => .ok (0 ≤ b) (.sc (.int k (k.wrap (a * 2 ^ (min b.toNat k.bits)))))
  | .shr => .ok (0 ≤ b) (.sc (.int k (a.fdiv (2 ^ (min b.toNat k.bits)))))
  | .add => .ok (k = k') (.sc (.int k (k.wrap (a + b))))
  | .sub => .ok (k = k') (.sc (.int k (k.wrap (a - b))))
  | .mul => .ok (k = k') (.sc (.int k (k.wrap (a * b))))
  | .quo => .ok (k = k' ∧ b ≠ 0) (.sc (.int k (k.wrap (a.tdiv b))))
  | .rem => .ok (k = k' ∧ b ≠ 0) (.sc (.int k (a.tmod b)))
  | .and => .ok (k = k') (.sc (.int k (bits .and k a b)))
  | .or => .ok (k = k') (.sc (.int k (bits .or k a b)))
  | .xor => .ok (k = k') (.sc (.int k (bits .xor k a b)))
  | .andNot => .ok (k = k') (.sc (.int k (bits .andNot k a b)))
  | .eql => .ok (k = k') (.sc (.bool (decide (a = b))))
  | .neq => .ok (k = k') (.sc (.bool (!decide (a = b))))
  | .lss => .ok (k = k') (.sc (.bool (decide (a < b))))
  | .leq => .ok (k = k') (.sc (.bool (decide (a ≤ b))))
  | .gtr => .ok (k = k') (.sc (.bool (decide (b < a))))
  | .geq => .ok (k = k') (.sc (.bool (decide (b ≤ a))))

def binSS (op : BinOp) (a b : ByteArray) : VRes :=
  match op with
  | .add => .ok (((a.size + b.size : Nat) : Int) ≤ 9223372036854775807) (.sc (.string (a ++ b)))
  | .eql => .ok True (.sc (.bool (a.toList == b.toList)))
  | .neq => .ok True (.sc (.bool (!(a.toList == b.toList))))
  | .lss => .ok True (.sc (.bool (Op.bytesLess a.toList b.toList)))
  | .leq => .ok True (.sc (.bool (Op.bytesLess a.toList b.toList || a.toList == b.toList)))
  | .gtr => .ok True (.sc (.bool (!(Op.bytesLess a.toList b.toList || a.toList == b.toList))))
  | .geq => .ok True (.sc (.bool (!(Op.bytesLess a.toList b.toList))))
  | _ => .bad

def binBB (bt : Bool) (op : BinOp) (a b : Bool) : VRes :=
  match op with
  | .eql => .ok (bt = true) (.sc (.bool (a == b)))
  | .neq => .ok (bt = true) (.sc (.bool (!(a == b))))
  | _ => .bad

def binSV (P : Program) (op : BinOp) (t : TypeId) (x y : SV) : VRes :=
  match x, y with
  | .sc (.int k a), .sc (.int k' b) => binII op k a k' b
  | .sc (.string a), .sc (.string b) => binSS op a b
  | .sc (.bool a), .sc (.bool b) => binBB (isBool P t) op a b
  | _, _ => .bad

def unSV (op : UnOp) (x : SV) : VRes :=
  match op, x with
  | .neg, .sc (.int k n) => .ok True (.sc (.int k (k.wrap (0 - n))))
  | .not, .sc (.bool b) => .ok True (.sc (.bool (!b)))
  | .xor, .sc (.int k n) => .ok True (.sc (.int k (bits .xor k (if k.signed then -1 else k.max) n)))
  | _, _ => .bad

def getN (k : Blk) (off : Nat) (n : Nat) : List SV := match n with
  | 0 => []
  | n + 1 => k.get off :: getN k (off + 1) n

def loadSV (T : Option (Bool × Nat)) (x : SV) (h : Heap) : VRes :=
  match T, x with
  | some (false, _), .fp cs => .ok (0 < cs.length) (cs.getD 0 .any)
  | some (true, n), .fp cs => .ok (cs.length = n) (.agg cs)
  | some (false, _), .op b off => match h.find b with
    | some k => .ok (off < k.len) (k.get off)
    | none => .bad
  | some (true, n), .op b off => match h.find b with
    | some k => .ok (off + n ≤ k.len) (.agg (getN k off n))
    | none => .bad
  | _, _ => .bad

def indexAddrSV (L : Option (TypeId × Nat × Nat)) (A : Option (Nat × Nat)) (x i : SV) : VRes :=
  match i with
  | .sc (.int _ n) => match x with
    | .fl m sz f => match L with
      | some (_, s, _) => .ok (0 ≤ n ∧ n < m ∧ sz = s) (.fp (f n.toNat))
      | none => .bad
    | .os b off len sz => match L with
      | some (_, s, _) => .ok (0 ≤ n ∧ n < len ∧ sz = s) (.op b (off + n.toNat * s))
      | none => .bad
    | .op b off => match A with
      | some (len, s) => .ok (0 ≤ n ∧ n < len) (.op b (off + n.toNat * s))
      | none => .bad
    | .fp cs => match A with
      | some (len, s) => .ok (0 ≤ n ∧ n < len ∧ cs.length = len * s) (.fp ((cs.drop (n.toNat * s)).take s))
      | none => .bad
    | _ => .bad
  | _ => .bad

def indexSV (st : Bool) (x i : SV) : VRes :=
  match x, i with
  | .sc (.string s), .sc (.int _ n) => .ok (st = true ∧ 0 ≤ n ∧ n < s.size) (.sc (.int .u8 (s.data.toList.getD n.toNat 0).toNat))
  | _, _ => .bad

def fieldAddrSV (F : Option (Nat × Bool × Nat)) (x : SV) : VRes :=
  match F, x with
  | some (off, _, n), .fp cs => .ok (n ≠ 0 ∧ off + n ≤ cs.length) (.fp ((cs.drop off).take n))
  | some (off, _, n), .op b o => .ok (n ≠ 0) (.op b (o + off))
  | _, _ => .bad

def fieldSV (F : Option (Nat × Bool × Nat)) (x : SV) : VRes :=
  match F, x with
  | some (off, true, n), .agg cs => .ok (off + n ≤ cs.length) (.agg ((cs.drop off).take n))
  | some (off, false, _), .agg cs => .ok (off < cs.length) (cs.getD off .any)
  | _, _ => .bad

def lenSV (st : Bool) (L : Option (TypeId × Nat × Nat)) (A : Option (Nat × Nat)) (x : SV) : VRes :=
  match x with
  | .fl n _ _ => match L with
    | some _ => .ok True (.sc (.int .i64 n))
    | none => .bad
  | .os _ _ n _ => match L with
    | some _ => .ok True (.sc (.int .i64 n))
    | none => .bad
  | .sc (.slice _ n _) => match L with
    | some _ => .ok True (.sc (.int .i64 n))
    | none => .bad
  | .sc (.string s) => .ok (st = true) (.sc (.int .i64 s.size))
  | _ => match A with
    | some (n, _) => .ok True (.sc (.int .i64 n))
    | none => .bad

/-- A bound of a slice expression. -/
def bnd (x : Option SV) (d : Nat) : Option Int :=
  match x with
  | none => some d
  | some (.sc (.int _ n)) => some n
  | _ => none

def sliceSV (st : Bool) (L : Option (TypeId × Nat × Nat)) (x : SV) (lo hi mx : Option SV) : VRes :=
  match mx with
  | some m => match hi with
    | none => .bad
    | some hi => match x with
      | .fl n sz f => match L, bnd lo 0, bnd (some hi) n, bnd (some m) n with
        | some (_, s, _), some l, some h, some m => .ok (sz = s ∧ 0 ≤ l ∧ l ≤ h ∧ h ≤ m ∧ m ≤ n) (.fl (h - l).toNat sz (fun i => f (l.toNat + i)))
        | _, _, _, _ => .bad
      | .os b off n sz => match L, bnd lo 0, bnd (some hi) n, bnd (some m) n with
        | some (_, s, _), some l, some h, some m => .ok (sz = s ∧ 0 ≤ l ∧ l ≤ h ∧ h ≤ m ∧ m ≤ n ∧ (l = 0 ∨ l < h)) (.os b (off + l.toNat * s) (h - l).toNat sz)
        | _, _, _, _ => .bad
      | _ => .bad
  | none => match x with
    | .sc (.string s) => match bnd lo 0, bnd hi s.size with
      | some l, some h => .ok (st = true ∧ 0 ≤ l ∧ l ≤ h ∧ h ≤ s.size) (.sc (.string (s.extract l.toNat h.toNat)))
      | _, _ => .bad
    | .sc (.slice none 0 0) => match L, bnd lo 0, bnd hi 0 with
      | some _, some l, some h => .ok (0 ≤ l ∧ l ≤ h ∧ h ≤ 0) (.sc (.slice none 0 0))
      | _, _, _ => .bad
    | .fl n sz f => match L, bnd lo 0, bnd hi n with
      | some (_, s, _), some l, some h => .ok (sz = s ∧ 0 ≤ l ∧ l ≤ h ∧ h ≤ n) (.fl (h - l).toNat sz (fun i => f (l.toNat + i)))
      | _, _, _ => .bad
    | .os b off n sz => match L, bnd lo 0, bnd hi n with
      | some (_, s, _), some l, some h => .ok (sz = s ∧ 0 ≤ l ∧ l ≤ h ∧ h ≤ n ∧ (l = 0 ∨ l < h)) (.os b (off + l.toNat * s) (h - l).toNat sz)
      | _, _, _ => .bad
    | _ => .bad

def convSV (kd : Option IntKind) (sd : Bool) (x : SV) : VRes :=
  match x with
  | .sc (.int _ n) => match kd with
    | some k => .ok True (.sc (.int k (k.wrap n)))
    | none => .bad
  | .sc (.string s) => .ok (sd = true) (.sc (.string s))
  | _ => .bad

def nilSV (x : SV) : VRes :=
  match x with
  | .fp cs => .ok True (.fp cs)
  | .op b o => .ok True (.op b o)
  | .fn (.func f) a c => .ok True (.fn (.func f) a c)
  | _ => .bad

def zfill (z : List Value) (n : Nat) : List SV := match n with
  | 0 => []
  | n + 1 => z.map SV.sc ++ zfill z n
/-- The block of a new slice of zeros. -/
def zeros (z : List Value) (n : Nat) : Blk :=
  match z with
  | [.int k 0] => .ints k (List.replicate n 0)
  | [.bool false] => .bools (List.replicate n false)
  | z => .svs (zfill z n)

def makeSV (L : Option (TypeId × Nat × Nat)) (Z : Option (List Value)) (l c : SV) : VRes :=
  match L, Z, l, c with
  | some (_, s, bytes), some z, .sc (.int _ n), .sc (.int _ m) =>
    .new (0 ≤ n ∧ n ≤ m ∧ m ≤ 9223372036854775807 ∧ bytes * m ≤ 281474976710656 ∧ z.length = s ∧ 0 < s) (zeros z m.toNat) (fun b => .os b 0 n.toNat s)
  | _, _, _, _ => .bad

end Go.Ab
/- The model's operations yield what the abstract layer says: those that leave the world as it is. -/
namespace Go.Ab
open Go.RowKit

section
variable {P : Program} {M : Nat → Prop} {h : Heap} {w : World}

theorem Heap.find_mem {h : Heap} {b : Nat} {k : Blk} (hf : h.find b = some k) : (b, k) ∈ h := by
  induction h with
  | nil => cases hf
  | cons x r ih =>
    obtain ⟨c, k'⟩ := x
    simp only [Heap.find] at hf
    split at hf
    · rename_i hc; subst hc; cases hf; exact List.mem_cons_self
    · exact List.mem_cons_of_mem _ (ih hf)

theorem run_isAgg {t : TypeId} {g : Bool} {n : Nat} (ht : tk P t = some (g, n)) (w : World) : (isAgg t).run P w = .ok g w := by
  unfold tk at ht
  unfold isAgg underlying
  cases hu : P.underlying t with
  | none => simp [hu] at ht
  | some d =>
    cases hi : P.info? t with
    | none => rw [hu, hi] at ht; cases d <;> simp at ht
    | some i => rw [hu, hi] at ht; cases d <;> simp at ht <;> simp [hu, ht.1]

theorem run_sizeOf {t : TypeId} {g : Bool} {n : Nat} (ht : tk P t = some (g, n)) (w : World) : (sizeOf t).run P w = .ok n w := by
  unfold tk at ht
  unfold sizeOf typeInfo
  cases hu : P.underlying t with
  | none => simp [hu] at ht
  | some d =>
    cases hi : P.info? t with
    | none => rw [hu, hi] at ht; cases d <;> simp at ht
    | some i => rw [hu, hi] at ht; cases d <;> simp at ht <;> simp [hi, ht.2]

theorem run_sizeOf_info {t : TypeId} {i : TypeInfo} (hi : P.info? t = some i) (w : World) : (sizeOf t).run P w = .ok i.size w := by
  simp [sizeOf, typeInfo, hi]

theorem run_typeInfo {t : TypeId} {i : TypeInfo} (hi : P.info? t = some i) (w : World) : (typeInfo t).run P w = .ok i w := by
  simp [typeInfo, hi]

theorem slk_spec {t : TypeId} {e s b : Nat} (hs : slk P t = some (e, s, b)) : ∃ i, P.underlying t = some (.slice e) ∧ P.info? e = some i ∧ i.size = s ∧ i.bytes = b := by
  unfold slk at hs
  split at hs
  · rename_i e' hu
    split at hs
    · rename_i i hi
      simp at hs
      obtain ⟨rfl, rfl, rfl⟩ := hs
      exact ⟨i, hu, hi, rfl, rfl⟩
    · cases hs
  · cases hs

theorem ark_spec {t : TypeId} {n s : Nat} (hs : ark P t = some (n, s)) : ∃ e i, P.underlying t = some (.array n e) ∧ P.info? e = some i ∧ i.size = s := by
  unfold ark at hs
  split at hs
  · rename_i n' e' hu
    split at hs
    · rename_i i hi
      simp at hs
      obtain ⟨rfl, rfl⟩ := hs
      exact ⟨e', i, hu, hi, rfl⟩
    · cases hs
  · cases hs

theorem fdk_spec {s : TypeId} {i off n : Nat} {g : Bool} (hs : fdk P s i = some (off, g, n)) : ∃ fs f, P.underlying s = some (.struct fs) ∧ fs[i]? = some f ∧ f.offset = off ∧ tk P f.type = some (g, n) := by
  unfold fdk at hs
  split at hs
  · rename_i fs hu
    split at hs
    · rename_i f hf
      split at hs
      · rename_i g' n' hk
        simp at hs
        obtain ⟨rfl, rfl, rfl⟩ := hs
        exact ⟨fs, f, hu, hf, rfl, hk⟩
      · cases hs
    · cases hs
  · cases hs

/-- The cells that are loaded one by one. -/
theorem run_loadCellsFrom {a : Addr} (val : Nat → Value) : ∀ (n i : Nat) (acc : Array Value), (∀ j, j < n → w.cell? (a.add (i + j)) = some (val (i + j))) →
    (loadCellsFrom a i n acc).run P w = .ok (acc ++ ((List.range n).map fun j => val (i + j)).toArray) w := by
  intro n
  induction n with
  | zero => intro i acc _; simp [loadCellsFrom]
  | succ n ih =>
    intro i acc hc
    have h0 := hc 0 (by omega)
    simp only [Nat.add_zero] at h0
    simp only [loadCellsFrom, Sem.run_bind, run_load, h0, Result.andThen_ok]
    rw [ih (i + 1) (acc.push (val i)) (fun j hj => by have := hc (j + 1) (by omega); rwa [show i + (j + 1) = i + 1 + j by omega] at this)]
    congr 1
    rw [List.range_succ_eq_map]
    simp [Function.comp_def, Nat.add_assoc, Nat.add_comm 1]

theorem run_loadVar_agg {t : TypeId} {n : Nat} (ht : tk P t = some (true, n)) {b off : Nat} (val : Nat → Value) (hc : ∀ j, j < n → w.cell? ⟨b, off + j, none⟩ = some (val j)) :
    (loadVar t ⟨b, off, none⟩).run P w = .ok (.agg ((List.range n).map val).toArray) w := by
  have := run_loadCellsFrom (P := P) (w := w) (a := ⟨b, off, none⟩) val n 0 #[] (fun j hj => by simpa [Addr.add_lit] using hc j hj)
  simp only [loadVar, Sem.run_bind, run_isAgg ht, run_sizeOf ht, Result.andThen_ok, if_true, loadCells, this]
  simp

theorem run_loadVar_one {t : TypeId} {n : Nat} (ht : tk P t = some (false, n)) {a : Addr} {v : Value} (hc : w.cell? a = some v) :
    (loadVar t a).run P w = .ok v w := by
  simp [loadVar, run_isAgg ht, hc]

theorem Owns.cell (own : Owns M h w) {b : Nat} {k : Blk} (hm : (b, k) ∈ h) {i : Nat} (hi : i < k.len) : ∃ v, w.cell? ⟨b, i, none⟩ = some v ∧ Rep (envOf (hid M h) w) v (k.get i) := by
  obtain ⟨c, e, hb, hl, hr⟩ := own.ok b k hm
  have hlt : i < c.size := Nat.lt_of_lt_of_le hi hl
  refine ⟨c[i], by simp [World.cell?, hb, hlt], ?_⟩
  have := hr i hi
  simpa [hlt] using this

theorem Owns.hasSize (own : Owns M h w) {b : Nat} {k : Blk} (hm : (b, k) ∈ h) : ∃ m, HasSize w b m ∧ k.len ≤ m := by
  obtain ⟨c, e, hb, hl, _⟩ := own.ok b k hm
  exact ⟨c.size, ⟨c, e, _, hb, rfl⟩, hl⟩

theorem length_getN (k : Blk) : ∀ (n off : Nat), (getN k off n).length = n
  | 0, _ => rfl
  | n + 1, off => by simp [getN, length_getN k n]

theorem getD_getN (k : Blk) : ∀ (n off j : Nat), j < n → (getN k off n).getD j .any = k.get (off + j)
  | 0, _, _, h => absurd h (by omega)
  | n + 1, off, 0, _ => by simp [getN]
  | n + 1, off, j + 1, h => by
    have := getD_getN k n (off + 1) j (by omega)
    simp only [getN, List.getD_cons_succ]
    rw [this]; congr 1; omega

theorem getD_list {α : Type} (l : List α) (n : Nat) (d : α) (h : n < l.length) : l.getD n d = l[n] := by simp [h]

theorem load_sound {t : TypeId} {u : Value} {x v : SV} {pre : Prop} (own : Owns M h w) (hx : Rep (envOf (hid M h) w) u x)
    (hv : loadSV (tk P t) x h = .ok pre v) (hp : pre) : ∃ r, (Instr.loadAt t u).run P w = .ok r w ∧ Rep (envOf (hid M h) w) r v := by
  unfold loadSV at hv
  split at hv
  · rename_i n cs ht
    cases hv
    cases hx with
    | fp b off _ val hs hr =>
      exact ⟨val 0, by simp [Instr.loadAt, Instr.sureAddr, run_loadVar_one ht (by simpa using (hs 0 hp).2)], hr 0 hp⟩
  · rename_i n cs ht
    cases hv
    cases hx with
    | fp b off _ val hs hr =>
      refine ⟨_, by simp only [Instr.loadAt, Instr.sureAddr, Sem.run_bind, Sem.run_pure, Result.andThen_ok]; exact run_loadVar_agg ht val (fun j hj => (hs j (by omega)).2), ?_⟩
      refine .agg _ _ (by simp [hp]) (fun j hj => ?_)
      have := hr j hj
      simpa [show j < n by omega] using this
  · rename_i n b off ht
    split at hv
    · rename_i k hk
      cases hv
      cases hx with
      | op _ _ =>
        obtain ⟨r, hc, hr⟩ := own.cell (Heap.find_mem hk) hp
        exact ⟨r, by simp [Instr.loadAt, Instr.sureAddr, run_loadVar_one ht hc], hr⟩
    · cases hv
  · rename_i n b off ht
    split at hv
    · rename_i k hk
      cases hv
      cases hx with
      | op _ _ =>
        have hm := Heap.find_mem hk
        have hex : ∀ j, ∃ r, j < n → w.cell? ⟨b, off + j, none⟩ = some r ∧ Rep (envOf (hid M h) w) r (k.get (off + j)) := fun j => by
          by_cases hj : j < n
          · obtain ⟨r, h1, h2⟩ := own.cell hm (i := off + j) (by omega)
            exact ⟨r, fun _ => ⟨h1, h2⟩⟩
          · exact ⟨default, fun x => absurd x hj⟩
        obtain ⟨val, hval⟩ := Classical.axiomOfChoice hex
        refine ⟨_, by simp only [Instr.loadAt, Instr.sureAddr, Sem.run_bind, Sem.run_pure, Result.andThen_ok]; exact run_loadVar_agg ht val (fun j hj => (hval j hj).1), ?_⟩
        refine .agg _ _ (by simp [length_getN]) (fun j hj => ?_)
        rw [length_getN] at hj
        rw [getD_getN k n off j hj]
        have := (hval j hj).2
        simpa [hj] using this
    · cases hv
  · cases hv

theorem index_lt {i n s : Nat} (hi : i < n) : i * s + s ≤ n * s := by
  have := Nat.mul_le_mul_right s (Nat.succ_le_of_lt hi)
  rwa [Nat.succ_mul] at this

theorem indexAddr_sound {t : TypeId} {u u' : Value} {x i v : SV} {pre : Prop} (hx : Rep (envOf (hid M h) w) u x) (hi : Rep (envOf (hid M h) w) u' i)
    (hv : indexAddrSV (slk P t) (ark P t) x i = .ok pre v) (hp : pre) : ∃ r, (Instr.indexAt t u u').run P w = .ok r w ∧ Rep (envOf (hid M h) w) r v := by
  unfold indexAddrSV at hv
  split at hv
  · rename_i kk n
    cases hi
    split at hv
    · rename_i m sz f
      split at hv
      · rename_i q s bb hL
        cases hv
        obtain ⟨h0, h1, rfl⟩ := hp
        obtain ⟨i, hu, hin, rfl, rfl⟩ := slk_spec hL
        have hn : n.toNat < m := by omega
        cases hx with
        | fl0 a cap sz f => omega
        | fl b off _ cap _ _ val hc hl hs hr =>
          refine ⟨.pointer (some ⟨b, off + n.toNat * i.size, none⟩), by simp [Instr.indexAt, run_underlying hu, asIntOf, h0, h1, run_sizeOf_info hin, Addr.add_lit], ?_⟩
          exact .fp b _ _ (val n.toNat) (fun j hj => by rw [hl _ hn] at hj; exact hs _ hn j hj) (fun j hj => by rw [hl _ hn] at hj; exact hr _ hn j hj)
      · cases hv
    · rename_i b off len sz
      split at hv
      · rename_i q s bb hL
        cases hv
        obtain ⟨h0, h1, rfl⟩ := hp
        obtain ⟨i, hu, hin, rfl, rfl⟩ := slk_spec hL
        cases hx with
        | os _ _ _ cap _ m hc hm hb =>
          exact ⟨_, by simp [Instr.indexAt, run_underlying hu, asIntOf, h0, h1, run_sizeOf_info hin, Addr.add_lit], .op _ _⟩
      · cases hv
    · rename_i b off
      split at hv
      · rename_i len s hA
        cases hv
        obtain ⟨h0, h1⟩ := hp
        obtain ⟨e, i, hu, hin, rfl⟩ := ark_spec hA
        cases hx with
        | op _ _ => exact ⟨_, by simp [Instr.indexAt, run_underlying hu, asIntOf, h0, h1, run_sizeOf_info hin, Addr.add_lit, Instr.sureAddr], .op _ _⟩
      · cases hv
    · rename_i cs
      split at hv
      · rename_i len s hA
        cases hv
        obtain ⟨h0, h1, h2⟩ := hp
        obtain ⟨e, i, hu, hin, rfl⟩ := ark_spec hA
        cases hx with
        | fp b off _ val hs hr =>
          refine ⟨.pointer (some ⟨b, off + n.toNat * i.size, none⟩), by simp [Instr.indexAt, run_underlying hu, asIntOf, h0, h1, run_sizeOf_info hin, Addr.add_lit, Instr.sureAddr], ?_⟩
          have hlt := index_lt (i := n.toNat) (n := len) (s := i.size) (by omega)
          have hlen : ((cs.drop (n.toNat * i.size)).take i.size).length = i.size := by simp; omega
          refine .fp _ _ _ (fun j => val (n.toNat * i.size + j)) (fun j hj => ?_) (fun j hj => ?_)
          · rw [hlen] at hj
            have := hs (n.toNat * i.size + j) (by omega)
            rwa [← Nat.add_assoc] at this
          · rw [hlen] at hj
            have := hr (n.toNat * i.size + j) (by omega)
            rw [List.getD_eq_getElem?_getD] at this ⊢
            rwa [List.getElem?_take_of_lt hj, List.getElem?_drop]
      · cases hv
    · cases hv
  · cases hv

theorem fieldAddr_sound {s : TypeId} {f : Nat} {u : Value} {x v : SV} {pre : Prop} (hx : Rep (envOf (hid M h) w) u x)
    (hv : fieldAddrSV (fdk P s f) x = .ok pre v) (hp : pre) : ∃ r, (Instr.fieldAt s u f).run P w = .ok r w ∧ Rep (envOf (hid M h) w) r v := by
  unfold fieldAddrSV at hv
  split at hv
  · rename_i off g n cs hF
    cases hv
    obtain ⟨hn, hl⟩ := hp
    obtain ⟨fs, fd, hu, hf, rfl, hk⟩ := fdk_spec hF
    cases hx with
    | fp b o _ val hs hr =>
      refine ⟨.pointer (some ⟨b, o + fd.offset, none⟩), by simp [Instr.fieldAt, run_underlying hu, hf, Instr.sureAddr, fieldPlace, run_sizeOf hk, hn, Addr.add_lit], ?_⟩
      have hlen : ((cs.drop fd.offset).take n).length = n := by simp; omega
      refine .fp _ _ _ (fun j => val (fd.offset + j)) (fun j hj => ?_) (fun j hj => ?_)
      · rw [hlen] at hj
        have := hs (fd.offset + j) (by omega)
        rwa [← Nat.add_assoc] at this
      · rw [hlen] at hj
        have := hr (fd.offset + j) (by omega)
        rw [List.getD_eq_getElem?_getD] at this ⊢
        rwa [List.getElem?_take_of_lt hj, List.getElem?_drop]
  · rename_i off g n b o hF
    cases hv
    obtain ⟨fs, fd, hu, hf, rfl, hk⟩ := fdk_spec hF
    cases hx with
    | op _ _ => exact ⟨_, by simp [Instr.fieldAt, run_underlying hu, hf, Instr.sureAddr, fieldPlace, run_sizeOf hk, hp, Addr.add_lit], .op _ _⟩
  · cases hv

theorem field_sound {s : TypeId} {f : Nat} {u : Value} {x v : SV} {pre : Prop} (hx : Rep (envOf (hid M h) w) u x)
    (hv : fieldSV (fdk P s f) x = .ok pre v) (hp : pre) : ∃ r, (Instr.field s u f).run P w = .ok r w ∧ Rep (envOf (hid M h) w) r v := by
  unfold fieldSV at hv
  split at hv
  · rename_i off n cs hF
    cases hv
    obtain ⟨fs, fd, hu, hf, rfl, hk⟩ := fdk_spec hF
    cases hx with
    | agg c _ hl hr =>
      refine ⟨.agg (c.extract fd.offset (fd.offset + n)), by simp [Instr.field, run_underlying hu, hf, asAgg, part, run_isAgg hk, run_sizeOf hk], ?_⟩
      have hlen : ((cs.drop fd.offset).take n).length = n := by simp; omega
      refine .agg _ _ (by rw [hlen]; simp; omega) (fun j hj => ?_)
      rw [hlen] at hj
      have := hr (fd.offset + j) (by omega)
      rw [List.getD_eq_getElem?_getD] at this ⊢
      rw [List.getElem?_take_of_lt hj, List.getElem?_drop]
      rw [Array.getD_eq_getD_getElem?] at this ⊢
      rwa [Array.getElem?_extract, if_pos (by omega)]
  · rename_i off n cs hF
    cases hv
    obtain ⟨fs, fd, hu, hf, rfl, hk⟩ := fdk_spec hF
    cases hx with
    | agg c _ hl hr =>
      have hlt : fd.offset < c.size := by omega
      refine ⟨c[fd.offset], by simp [Instr.field, run_underlying hu, hf, asAgg, part, run_isAgg hk, hlt], ?_⟩
      have := hr _ hp
      simpa [hlt] using this
  · cases hv

theorem run_equalIn_bool {t : TypeId} (hu : P.underlying t = some .bool) (d : Nat) (a b : Bool) (w : World) : (Op.equalIn (d + 1) t (.bool a) (.bool b)).run P w = .ok (a == b) w := by
  simp [Op.equalIn, run_underlying hu]
theorem run_equal_bool {t : TypeId} (hu : P.underlying t = some .bool) (a b : Bool) (w : World) : (Op.equal t (.bool a) (.bool b)).run P w = .ok (a == b) w :=
  run_equalIn_bool hu 9999 a b w
theorem binOp_eql_bool (t : TypeId) (a b : Bool) : binOp .eql t (.bool a) (.bool b) = (do pure (.bool (← Op.equal t (.bool a) (.bool b)))) := rfl
theorem binOp_neq_bool (t : TypeId) (a b : Bool) : binOp .neq t (.bool a) (.bool b) = (do pure (.bool (!(← Op.equal t (.bool a) (.bool b))))) := rfl
theorem binOp_str_add (t : TypeId) (a b : ByteArray) : binOp .add t (.string a) (.string b) = Op.stringOp .add a b := rfl
theorem binOp_str_eql (t : TypeId) (a b : ByteArray) : binOp .eql t (.string a) (.string b) = Op.stringOp .eql a b := rfl
theorem binOp_str_neq (t : TypeId) (a b : ByteArray) : binOp .neq t (.string a) (.string b) = Op.stringOp .neq a b := rfl
theorem binOp_str_lss (t : TypeId) (a b : ByteArray) : binOp .lss t (.string a) (.string b) = Op.stringOp .lss a b := rfl
theorem binOp_str_leq (t : TypeId) (a b : ByteArray) : binOp .leq t (.string a) (.string b) = Op.stringOp .leq a b := rfl
theorem binOp_str_gtr (t : TypeId) (a b : ByteArray) : binOp .gtr t (.string a) (.string b) = Op.stringOp .gtr a b := rfl
theorem binOp_str_geq (t : TypeId) (a b : ByteArray) : binOp .geq t (.string a) (.string b) = Op.stringOp .geq a b := rfl

theorem bin_sound {op : BinOp} {t : TypeId} {ox oy : Operand} {u u' : Value} {x y v : SV} {pre : Prop} (hx : Rep (envOf (hid M h) w) u x) (hy : Rep (envOf (hid M h) w) u' y)
    (hv : binSV P op t x y = .ok pre v) (hp : pre) : ∃ r, (do eqGuard op t ox oy u u'; binOp op t u u' : Sem Value).run P w = .ok r w ∧ Rep (envOf (hid M h) w) r v := by
  unfold binSV at hv
  split at hv
  · rename_i k a k' b
    cases hx; cases hy
    cases op <;> simp only [binII, VRes.ok.injEq] at hv <;> obtain ⟨rfl, rfl⟩ := hv
    case add => subst hp; exact ⟨_, by simp [eqGuard_at_int, binOp_add, Op.intArith], .sc _⟩
    case sub => subst hp; exact ⟨_, by simp [eqGuard_at_int, binOp_sub, Op.intArith], .sc _⟩
    case mul => subst hp; exact ⟨_, by simp [eqGuard_at_int, binOp_mul, Op.intArith], .sc _⟩
    case quo => obtain ⟨rfl, hb⟩ := hp; exact ⟨_, by simp [eqGuard_at_int, binOp_quo, Op.intDiv, hb], .sc _⟩
    case rem => obtain ⟨rfl, hb⟩ := hp; exact ⟨_, by simp [eqGuard_at_int, binOp_rem, Op.intDiv, hb], .sc _⟩
    case and => subst hp; exact ⟨_, by simp [eqGuard_at_int, binOp_and, intBits_and], .sc _⟩
    case or => subst hp; exact ⟨_, by simp [eqGuard_at_int, binOp_or, intBits_or], .sc _⟩
    case xor => subst hp; exact ⟨_, by simp [eqGuard_at_int, binOp_xor, intBits_xor], .sc _⟩
    case andNot => subst hp; exact ⟨_, by simp [eqGuard_at_int, binOp_andNot, intBits_andNot], .sc _⟩
    case eql => subst hp; exact ⟨_, by simp [eqGuard_at_int, binOp_eql]; rfl, by exact .sc _⟩
    case neq => subst hp; exact ⟨_, by simp [eqGuard_at_int, binOp_neq]; rfl, by exact .sc _⟩
    case lss => subst hp; exact ⟨_, by simp [eqGuard_at_int, binOp_lss], .sc _⟩
    case leq => subst hp; exact ⟨_, by simp [eqGuard_at_int, binOp_leq], .sc _⟩
    case gtr => subst hp; exact ⟨_, by simp [eqGuard_at_int, binOp_gtr], .sc _⟩
    case geq => subst hp; exact ⟨_, by simp [eqGuard_at_int, binOp_geq], .sc _⟩
    case shl => exact ⟨_, by simp [eqGuard_at_int, binOp_shl, Op.shift, Int.not_lt.2 hp], .sc _⟩
    case shr => exact ⟨_, by simp [eqGuard_at_int, binOp_shr, Op.shift, Int.not_lt.2 hp], .sc _⟩
  · rename_i a b
    cases hx; cases hy
    cases op <;> simp only [binSS] at hv <;> first | (cases hv; done) | (simp only [VRes.ok.injEq] at hv; obtain ⟨rfl, rfl⟩ := hv)
    case add =>
      have : ¬ (((a.size + b.size : Nat) : Int) > IntKind.i64.max) := by rw [IntKind.max_i64]; omega
      exact ⟨_, by simp only [Sem.run_bind, eqGuard_at_string, Sem.run_pure, Result.andThen_ok, binOp_str_add, Op.stringOp, if_neg this], .sc _⟩
    case eql => exact ⟨_, by simp only [Sem.run_bind, eqGuard_at_string, Sem.run_pure, Result.andThen_ok, binOp_str_eql, Op.stringOp], .sc _⟩
    case neq => exact ⟨_, by simp only [Sem.run_bind, eqGuard_at_string, Sem.run_pure, Result.andThen_ok, binOp_str_neq, Op.stringOp], .sc _⟩
    case lss => exact ⟨_, by simp only [Sem.run_bind, eqGuard_at_string, Sem.run_pure, Result.andThen_ok, binOp_str_lss, Op.stringOp], .sc _⟩
    case leq => exact ⟨_, by simp only [Sem.run_bind, eqGuard_at_string, Sem.run_pure, Result.andThen_ok, binOp_str_leq, Op.stringOp], .sc _⟩
    case gtr => exact ⟨_, by simp only [Sem.run_bind, eqGuard_at_string, Sem.run_pure, Result.andThen_ok, binOp_str_gtr, Op.stringOp], .sc _⟩
    case geq => exact ⟨_, by simp only [Sem.run_bind, eqGuard_at_string, Sem.run_pure, Result.andThen_ok, binOp_str_geq, Op.stringOp], .sc _⟩
  · rename_i a b
    cases hx; cases hy
    have hu : isBool P t = true → P.underlying t = some .bool := fun hb => by
      unfold isBool at hb
      split at hb
      · assumption
      · cases hb
    cases op <;> simp only [binBB] at hv <;> first | (cases hv; done) | (simp only [VRes.ok.injEq] at hv; obtain ⟨rfl, rfl⟩ := hv)
    · refine ⟨.bool (a == b), ?_, .sc _⟩
      simp only [Sem.run_bind, eqGuard_at_bool, Sem.run_pure, Result.andThen_ok, binOp_eql_bool, run_equal_bool (hu hp)]
    · refine ⟨.bool (!(a == b)), ?_, .sc _⟩
      simp only [Sem.run_bind, eqGuard_at_bool, Sem.run_pure, Result.andThen_ok, binOp_neq_bool, run_equal_bool (hu hp)]
  · cases hv

theorem un_sound {op : UnOp} {u : Value} {x v : SV} {pre : Prop} (hx : Rep (envOf (hid M h) w) u x)
    (hv : unSV op x = .ok pre v) : ∃ r, (Op.unary op u).run P w = .ok r w ∧ Rep (envOf (hid M h) w) r v := by
  unfold unSV at hv
  split at hv
  · cases hx; cases hv; exact ⟨_, by simp [Op.unary, Op.intArith], .sc _⟩
  · cases hx; cases hv; exact ⟨_, by simp [Op.unary], .sc _⟩
  · cases hx; cases hv; exact ⟨_, by simp [Op.unary, intBits_xor], .sc _⟩
  · cases hv

theorem isStr_spec {t : TypeId} (hs : isStr P t = true) : P.underlying t = some .string := by
  unfold isStr at hs
  split at hs
  · assumption
  · cases hs

theorem index_sound {t : TypeId} {u u' : Value} {x i v : SV} {pre : Prop} (hx : Rep (envOf (hid M h) w) u x) (hi : Rep (envOf (hid M h) w) u' i)
    (hv : indexSV (isStr P t) x i = .ok pre v) (hp : pre) : ∃ r, (Instr.index t u u').run P w = .ok r w ∧ Rep (envOf (hid M h) w) r v := by
  unfold indexSV at hv
  split at hv
  · rename_i s k n
    cases hv
    obtain ⟨hs, h0, h1⟩ := hp
    cases hx; cases hi
    have hlt : n.toNat < s.size := by omega
    refine ⟨.int .u8 (s.data.toList.getD n.toNat 0).toNat, ?_, .sc _⟩
    have he : s[n.toNat]? = some (s.data.toList.getD n.toNat 0) := by
      rw [getElem?_pos s n.toNat hlt, List.getD_eq_getElem?_getD, Array.getElem?_toList, Array.getElem?_eq_getElem (by simpa using hlt)]
      rfl
    simp [Instr.index, asIntOf, run_underlying (isStr_spec hs), h0, he]
  · cases hv

theorem len_sound {t ty : TypeId} {u : Value} {x v : SV} {pre : Prop} (hx : Rep (envOf (hid M h) w) u x)
    (hv : lenSV (isStr P t) (slk P t) (ark P t) x = .ok pre v) (hp : pre) : ∃ r, (Builtin.len_ #[t] ty #[u]).run P w = .ok r w ∧ Rep (envOf (hid M h) w) r v := by
  have arr : ∀ {pre : Prop} {v : SV}, (match ark P t with | some (n, _) => VRes.ok True (.sc (.int .i64 n)) | none => .bad) = .ok pre v → ∃ r, (Builtin.len_ #[t] ty #[u]).run P w = .ok r w ∧ Rep (envOf (hid M h) w) r v := by
    intro pre v hv
    split at hv
    · rename_i n s hA
      cases hv
      obtain ⟨e, i, hu, hin, rfl⟩ := ark_spec hA
      exact ⟨_, by simp [Builtin.len_, run_underlying hu, goInt], .sc _⟩
    · cases hv
  unfold lenSV at hv
  split at hv
  · split at hv
    · rename_i L hL
      obtain ⟨e, s, bb⟩ := L
      cases hv
      obtain ⟨i, hu, hin, rfl, rfl⟩ := slk_spec hL
      cases hx <;> exact ⟨_, by simp [Builtin.len_, run_underlying hu, goInt], .sc _⟩
    · cases hv
  · split at hv
    · rename_i L hL
      obtain ⟨e, s, bb⟩ := L
      cases hv
      obtain ⟨i, hu, hin, rfl, rfl⟩ := slk_spec hL
      cases hx; exact ⟨_, by simp [Builtin.len_, run_underlying hu, goInt], .sc _⟩
    · cases hv
  · split at hv
    · rename_i L hL
      obtain ⟨e, s, bb⟩ := L
      cases hv
      obtain ⟨i, hu, hin, rfl, rfl⟩ := slk_spec hL
      cases hx; exact ⟨_, by simp [Builtin.len_, run_underlying hu, goInt], .sc _⟩
    · cases hv
  · cases hv
    cases hx
    exact ⟨_, by simp [Builtin.len_, run_underlying (isStr_spec hp), goInt], .sc _⟩
  · exact arr hv

end
end Go.Ab
/- Slices, conversions, and the operations that make a block. -/
namespace Go.Ab
open Go.RowKit

section
variable {P : Program} {M : Nat → Prop} {h : Heap} {w : World}

def ORep (E : Env) : Option Value → Option SV → Prop
  | none, none => True
  | some v, some s => Rep E v s
  | _, _ => False

theorem sliceBounds_run {E : Env} {isS : Bool} {len cap : Nat} {lo hi : Option Value} {slo shi : Option SV} {l r : Int} (hlo : ORep E lo slo) (hhi : ORep E hi shi)
    (bl : bnd slo 0 = some l) (br : bnd shi len = some r) (h0 : 0 ≤ l) (h1 : l ≤ r) (h2 : r ≤ len) (h3 : len ≤ cap) :
    (Instr.sliceBounds isS len cap lo hi none).run P w = .ok (l.toNat, r.toNat, cap) w := by
  have hiv : (match hi with | some v => Instr.sliceBound v cap (if isS then .sliceAcap else .sliceAlen) | none => pure len : Sem Nat).run P w = .ok r.toNat w := by
    cases hi with
    | none =>
      cases shi with
      | none => simp [bnd] at br; subst br; simp
      | some _ => exact hhi.elim
    | some v =>
      cases shi with
      | none => exact hhi.elim
      | some s =>
        unfold bnd at br
        split at br
        · rename_i hh; cases hh
        · rename_i k n hh
          cases hh; cases br; cases hhi
          simp [Instr.sliceBound, asIntOf, show 0 ≤ r ∧ r ≤ (cap : Int) by omega]
        · cases br
  have lov : ∀ code, (match lo with | some v => Instr.sliceBound v r.toNat code | none => pure 0 : Sem Nat).run P w = .ok l.toNat w := fun code => by
    cases lo with
    | none =>
      cases slo with
      | none => simp [bnd] at bl; subst bl; simp
      | some _ => exact hlo.elim
    | some v =>
      cases slo with
      | none => exact hlo.elim
      | some s =>
        unfold bnd at bl
        split at bl
        · rename_i hh; cases hh
        · rename_i k n hh
          cases hh; cases bl; cases hlo
          simp [Instr.sliceBound, asIntOf, show 0 ≤ l ∧ l ≤ max r 0 by omega]
        · cases bl
  unfold Instr.sliceBounds
  cases hi with
  | none =>
    simp only [Sem.run_pure] at hiv
    simp only [Sem.run_bind, Sem.run_pure, Result.andThen_ok]
    cases hiv
    cases lo with
    | none => simpa using lov .sliceB
    | some v =>
      have := lov .sliceB
      simp only at this
      simp [this]
  | some v =>
    simp only at hiv
    simp only [Sem.run_bind, Sem.run_pure, Result.andThen_ok, hiv]
    cases lo with
    | none => simpa using lov .sliceB
    | some v =>
      have := lov .sliceB
      simp only at this
      simp [this]

theorem slice_sound {t : TypeId} {u : Value} {x v : SV} {lo hi : Option Value} {slo shi : Option SV} {pre : Prop} (hx : Rep (envOf (hid M h) w) u x)
    (hlo : ORep (envOf (hid M h) w) lo slo) (hhi : ORep (envOf (hid M h) w) hi shi)
    (hv : sliceSV (isStr P t) (slk P t) x slo shi none = .ok pre v) (hp : pre) : ∃ r, (Instr.sliceAt t u lo hi none).run P w = .ok r w ∧ Rep (envOf (hid M h) w) r v := by
  unfold sliceSV at hv
  simp only at hv
  split at hv
  · rename_i s
    split at hv
    · rename_i l r bl br
      cases hv
      obtain ⟨hs, h0, h1, h2⟩ := hp
      cases hx
      refine ⟨.string (s.extract l.toNat r.toNat), ?_, .sc _⟩
      simp [Instr.sliceAt, Instr.slice, run_underlying (isStr_spec hs), sliceBounds_run hlo hhi bl br h0 h1 h2 (Nat.le_refl _)]
    · cases hv
  · split at hv
    · rename_i q l r hL bl br
      obtain ⟨q1, q2, q3⟩ := q
      cases hv
      obtain ⟨h0, h1, h2⟩ := hp
      obtain ⟨i, hu, hin, hs, rfl⟩ := slk_spec hL
      cases hx
      have hl : l = 0 := by omega
      have hr : r = 0 := by omega
      subst hl; subst hr
      refine ⟨.slice none 0 0, ?_, .sc _⟩
      simp [Instr.sliceAt, Instr.slice, run_underlying hu, sliceBounds_run (isS := true) (len := 0) (cap := 0) hlo hhi bl br h0 h1 h2 (Nat.le_refl _), run_sizeOf_info hin]
    · cases hv
  · rename_i n sz f
    split at hv
    · rename_i q s bb l r hL bl br
      cases hv
      obtain ⟨rfl, h0, h1, h2⟩ := hp
      obtain ⟨i, hu, hin, hs, rfl⟩ := slk_spec hL
      cases hx with
      | fl0 a cap _ f =>
        have hl : l = 0 := by omega
        have hr : r = 0 := by omega
        subst hl; subst hr
        refine ⟨_, by simp [Instr.sliceAt, Instr.slice, run_underlying hu, sliceBounds_run (isS := true) hlo hhi bl br h0 h1 h2 (Nat.zero_le cap), run_sizeOf_info hin]; rfl, ?_⟩
        exact .fl0 _ _ _ _
      | fl b off _ cap _ _ val hc hl hsee hr =>
        by_cases hm : cap = l.toNat
        · have e0 : (r - l).toNat = 0 := by omega
          have hbd := sliceBounds_run (P := P) (w := w) (isS := true) hlo hhi bl br h0 h1 h2 hc
          refine ⟨.slice (some ⟨b, off, none⟩) 0 (cap - l.toNat), ?_, ?_⟩
          · simp only [Instr.sliceAt, Instr.slice, Sem.run_bind, run_underlying hu, Result.andThen_ok, hbd, run_sizeOf_info hin, Sem.run_pure, if_pos hm]
            rw [show r.toNat - l.toNat = 0 by omega]
          rw [e0]
          exact .fl0 _ _ _ _
        · have e1 : r.toNat - l.toNat = (r - l).toNat := by omega
          refine ⟨.slice (some ⟨b, off + l.toNat * sz, none⟩) (r - l).toNat (cap - l.toNat), by simp [Instr.sliceAt, Instr.slice, run_underlying hu, sliceBounds_run (isS := true) hlo hhi bl br h0 h1 h2 hc, run_sizeOf_info hin, hm, hs, Addr.add_lit, e1], ?_⟩
          refine .fl b _ _ _ _ _ (fun i j => val (l.toNat + i) j) (by omega) (fun i hi => hl _ (by omega)) (fun i hi j hj => ?_) (fun i hi j hj => hr _ (by omega) j hj)
          have := hsee (l.toNat + i) (by omega) j hj
          rwa [Nat.add_mul, ← Nat.add_assoc] at this
    · cases hv
  · rename_i b off n sz
    split at hv
    · rename_i q s bb l r hL bl br
      cases hv
      obtain ⟨rfl, h0, h1, h2, h3⟩ := hp
      obtain ⟨i, hu, hin, hs, rfl⟩ := slk_spec hL
      cases hx with
      | os _ _ _ cap _ m hc hm hb =>
        have e1 : r.toNat - l.toNat = (r - l).toNat := by omega
        have hrun : (Instr.sliceAt t (.slice (some ⟨b, off, none⟩) n cap) lo hi none).run P w = .ok (.slice (some ⟨b, off + l.toNat * sz, none⟩) (r - l).toNat (cap - l.toNat)) w := by
          by_cases hml : cap = l.toNat
          · have hl0 : l = 0 := by omega
            have hbd := sliceBounds_run (P := P) (w := w) (isS := true) hlo hhi bl br h0 h1 h2 hc
            simp only [Instr.sliceAt, Instr.slice, Sem.run_bind, run_underlying hu, Result.andThen_ok, hbd, run_sizeOf_info hin, Sem.run_pure, if_pos hml]
            rw [hl0]
            simp
          · simp [Instr.sliceAt, Instr.slice, run_underlying hu, sliceBounds_run (isS := true) hlo hhi bl br h0 h1 h2 hc, run_sizeOf_info hin, hml, hs, Addr.add_lit, e1]
        refine ⟨_, hrun, .os b _ _ _ _ m (by omega) hm ?_⟩
        have : l.toNat * sz + (cap - l.toNat) * sz = cap * sz := by rw [← Nat.add_mul]; congr 1; omega
        omega
    · cases hv
  · cases hv

theorem bnd_some {E : Env} {v : Value} {s : SV} {d : Nat} {r : Int} (h : Rep E v s) (hb : bnd (some s) d = some r) : ∃ k, v = .int k r := by
  unfold bnd at hb
  split at hb
  · rename_i hh; cases hh
  · rename_i k n hh
    cases hh; cases hb; cases h
    exact ⟨k, rfl⟩
  · cases hb

theorem sliceBounds3_run {E : Env} {isS : Bool} {len cap d1 d2 : Nat} {lo : Option Value} {slo : Option SV} {hi mx : Value} {shi smx : SV} {l r m : Int} (hlo : ORep E lo slo) (hhi : Rep E hi shi) (hmx : Rep E mx smx)
    (bl : bnd slo 0 = some l) (br : bnd (some shi) d1 = some r) (bm : bnd (some smx) d2 = some m) (h0 : 0 ≤ l) (h1 : l ≤ r) (h2 : r ≤ m) (h4 : m ≤ cap) :
    (Instr.sliceBounds isS len cap lo (some hi) (some mx)).run P w = .ok (l.toNat, r.toNat, m.toNat) w := by
  obtain ⟨k1, rfl⟩ := bnd_some hhi br
  obtain ⟨k2, rfl⟩ := bnd_some hmx bm
  have hM : ∀ code, (Instr.sliceBound (.int k2 m) cap code).run P w = .ok m.toNat w := fun code => by simp [Instr.sliceBound, asIntOf, show 0 ≤ m ∧ m ≤ (cap : Int) by omega]
  have hH : ∀ code, (Instr.sliceBound (.int k1 r) m.toNat code).run P w = .ok r.toNat w := fun code => by simp [Instr.sliceBound, asIntOf, show 0 ≤ r ∧ r ≤ max m 0 by omega]
  unfold Instr.sliceBounds
  simp only [Sem.run_bind, hM, hH, Result.andThen_ok]
  cases lo with
  | none =>
    cases slo with
    | none => simp [bnd] at bl; subst bl; simp
    | some _ => exact hlo.elim
  | some v =>
    cases slo with
    | none => exact hlo.elim
    | some s =>
      obtain ⟨k3, rfl⟩ := bnd_some hlo bl
      have hL : ∀ code, (Instr.sliceBound (.int k3 l) r.toNat code).run P w = .ok l.toNat w := fun code => by simp [Instr.sliceBound, asIntOf, show 0 ≤ l ∧ l ≤ max r 0 by omega]
      simp [hL]

theorem slice3_sound {t : TypeId} {u : Value} {x v : SV} {lo hi : Option Value} {slo shi : Option SV} {mx : Value} {smx : SV} {pre : Prop} (hx : Rep (envOf (hid M h) w) u x)
    (hlo : ORep (envOf (hid M h) w) lo slo) (hhi : ORep (envOf (hid M h) w) hi shi) (hmx : Rep (envOf (hid M h) w) mx smx)
    (hv : sliceSV (isStr P t) (slk P t) x slo shi (some smx) = .ok pre v) (hp : pre) : ∃ r, (Instr.sliceAt t u lo hi (some mx)).run P w = .ok r w ∧ Rep (envOf (hid M h) w) r v := by
  unfold sliceSV at hv
  simp only at hv
  split at hv
  · cases hv
  · rename_i hi0 shi
    cases hi with
    | none => exact hhi.elim
    | some hi =>
      split at hv
      · rename_i n sz f
        split at hv
        · rename_i q s bb l r m hL bl br bm
          cases hv
          obtain ⟨rfl, h0, h1, h2, h3⟩ := hp
          obtain ⟨i, hu, hin, hs, rfl⟩ := slk_spec hL
          cases hx with
          | fl0 a cap _ f =>
            have hl : l = 0 := by omega
            have hr : r = 0 := by omega
            have hm : m = 0 := by omega
            subst hl; subst hr; subst hm
            refine ⟨_, by simp [Instr.sliceAt, Instr.slice, run_underlying hu, sliceBounds3_run (isS := true) (len := 0) (cap := cap) hlo hhi hmx bl br bm h0 h1 h2 (by omega), run_sizeOf_info hin]; rfl, ?_⟩
            exact .fl0 _ _ _ _
          | fl b off _ cap _ _ val hc hl hsee hr =>
            have hbd := sliceBounds3_run (P := P) (w := w) (isS := true) (len := n) (cap := cap) hlo hhi hmx bl br bm h0 h1 h2 (by omega)
            by_cases hm : m.toNat = l.toNat
            · have e0 : (r - l).toNat = 0 := by omega
              refine ⟨.slice (some ⟨b, off, none⟩) 0 (m.toNat - l.toNat), ?_, ?_⟩
              · simp only [Instr.sliceAt, Instr.slice, Sem.run_bind, run_underlying hu, Result.andThen_ok, hbd, run_sizeOf_info hin, Sem.run_pure, if_pos hm]
                rw [show r.toNat - l.toNat = 0 by omega]
              rw [e0]
              exact .fl0 _ _ _ _
            · have e1 : r.toNat - l.toNat = (r - l).toNat := by omega
              refine ⟨.slice (some ⟨b, off + l.toNat * sz, none⟩) (r - l).toNat (m.toNat - l.toNat), by simp [Instr.sliceAt, Instr.slice, run_underlying hu, hbd, run_sizeOf_info hin, hm, hs, Addr.add_lit, e1], ?_⟩
              refine .fl b _ _ _ _ _ (fun i j => val (l.toNat + i) j) (by omega) (fun i hi => hl _ (by omega)) (fun i hi j hj => ?_) (fun i hi j hj => hr _ (by omega) j hj)
              have := hsee (l.toNat + i) (by omega) j hj
              rwa [Nat.add_mul, ← Nat.add_assoc] at this
        · cases hv
      · rename_i b off n sz
        split at hv
        · rename_i q s bb l r m hL bl br bm
          cases hv
          obtain ⟨rfl, h0, h1, h2, h3, h4⟩ := hp
          obtain ⟨i, hu, hin, hs, rfl⟩ := slk_spec hL
          cases hx with
          | os _ _ _ cap _ mm hc hm hb =>
            have e1 : r.toNat - l.toNat = (r - l).toNat := by omega
            have hbd := sliceBounds3_run (P := P) (w := w) (isS := true) (len := n) (cap := cap) hlo hhi hmx bl br bm h0 h1 h2 (by omega)
            have hrun : (Instr.sliceAt t (.slice (some ⟨b, off, none⟩) n cap) lo (some hi) (some mx)).run P w = .ok (.slice (some ⟨b, off + l.toNat * sz, none⟩) (r - l).toNat (m.toNat - l.toNat)) w := by
              by_cases hml : m.toNat = l.toNat
              · have hl0 : l = 0 := by omega
                simp only [Instr.sliceAt, Instr.slice, Sem.run_bind, run_underlying hu, Result.andThen_ok, hbd, run_sizeOf_info hin, Sem.run_pure, if_pos hml]
                rw [hl0]
                simp
              · simp [Instr.sliceAt, Instr.slice, run_underlying hu, hbd, run_sizeOf_info hin, hml, hs, Addr.add_lit, e1]
            refine ⟨_, hrun, .os b _ _ _ _ mm (by omega) hm ?_⟩
            have h5 : l.toNat * sz + (m.toNat - l.toNat) * sz = m.toNat * sz := by rw [← Nat.add_mul]; congr 1; omega
            have h6 : m.toNat * sz ≤ cap * sz := Nat.mul_le_mul_right _ (by omega)
            omega
        · cases hv
      · cases hv

theorem conv_sound {s d : TypeId} {u : Value} {x v : SV} {pre : Prop} (hsrc : (P.underlying s).isSome = true) (hx : Rep (envOf (hid M h) w) u x)
    (hv : convSV (ik P d) (isStr P d) x = .ok pre v) (hp : pre) : ∃ r, (convert s d u).run P w = .ok r w ∧ Rep (envOf (hid M h) w) r v := by
  obtain ⟨sd, hsd⟩ := Option.isSome_iff_exists.1 hsrc
  unfold convSV at hv
  split at hv
  · rename_i k0 n
    split at hv
    · rename_i k hk
      cases hv
      cases hx
      have hu : P.underlying d = some (.int k) := by
        unfold ik at hk
        split at hk
        · rename_i k' hu; cases hk; exact hu
        · cases hk
      exact ⟨_, by simp [convert, run_underlying hsd, run_underlying hu, Conv.intToInt], .sc _⟩
    · cases hv
  · rename_i s
    cases hv
    cases hx
    exact ⟨_, by simp [convert, run_underlying hsd, run_underlying (isStr_spec hp)], .sc _⟩
  · cases hv

theorem tup_sound {u : Value} {cs : List SV} {i : Nat} (hx : Rep (envOf (hid M h) w) u (.tup cs)) (hi : i < cs.length) :
    ∃ r, (Instr.extract u i).run P w = .ok r w ∧ Rep (envOf (hid M h) w) r (cs.getD i .any) := by
  cases hx with
  | tup c _ hl hr =>
    have hlt : i < c.size := by omega
    refine ⟨c[i], by simp [Instr.extract, hlt], ?_⟩
    have := hr i hi
    simpa [hlt] using this

/-- Single cells: neither an aggregate nor a tuple. -/
theorem single_spec {E : Env} {v : Value} {s : SV} (hr : Rep E v s) (hs : single s = true) : v.oneCell' = true ∧ v.cells = #[v] := by
  cases hr
  case sc => cases v <;> first | (simp [single] at hs; done) | exact ⟨rfl, rfl⟩
  all_goals first | (simp [single] at hs; done) | exact ⟨rfl, rfl⟩

theorem svCells_spec {E : Env} {v : Value} {s : SV} {cs : List SV} (hr : Rep E v s) (hc : svCells s = some cs) :
    v.cells.size = cs.length ∧ (∀ i, i < cs.length → Rep E (v.cells.getD i undef) (cs.getD i .any)) ∧ ∀ i, i < cs.length → (v.cells.getD i undef).oneCell' = true := by
  have one : single s = true → some [s] = some cs → v.cells.size = cs.length ∧ (∀ i, i < cs.length → Rep E (v.cells.getD i undef) (cs.getD i .any)) ∧ ∀ i, i < cs.length → (v.cells.getD i undef).oneCell' = true := by
    intro hs hh
    cases hh
    obtain ⟨h1, h2⟩ := single_spec hr hs
    rw [h2]
    refine ⟨rfl, fun i hi => ?_, fun i hi => ?_⟩
    · obtain rfl : i = 0 := by simpa using hi
      simpa using hr
    · obtain rfl : i = 0 := by simpa using hi
      simpa using h1
  cases s with
  | agg cs' =>
    simp only [svCells] at hc
    by_cases ha : cs'.all single = true
    · rw [ha] at hc
      simp only [cond_true, Option.some.injEq] at hc
      subst hc
      cases hr with
      | agg c _ hl hh =>
        refine ⟨hl, hh, fun i hi => ?_⟩
        have hm : cs'.getD i .any ∈ cs' := by rw [getD_list _ _ _ hi]; exact List.getElem_mem hi
        exact (single_spec (hh i hi) (List.all_eq_true.1 ha _ hm)).1
    · simp only [Bool.not_eq_true] at ha
      rw [ha] at hc
      simp at hc
  | any => simp [svCells, single] at hc
  | tup cs' => simp [svCells, single] at hc
  | sc x =>
    simp only [svCells] at hc
    by_cases hs : single (.sc x) = true
    · rw [hs] at hc; simp only [cond_true] at hc; exact one hs hc
    · simp only [Bool.not_eq_true] at hs; rw [hs] at hc; simp at hc
  | _ => exact one rfl (by simpa [svCells, single] using hc)

end
end Go.Ab
/- Operations that make a block or an aggregate; the yield of every operation that only computes. -/
namespace Go.Ab
open Go.RowKit

/-- The world behind a new block. -/
def alc (w : World) (c : Array Value) (e : TypeId) : World := { w with heap := w.heap.push (.cells c e (0, 0)) }

section
variable {P : Program} {M : Nat → Prop} {h : Heap} {w : World}

theorem heap_alc_old {c : Array Value} {e : TypeId} {b : Nat} (hb : b < w.heap.size) : (alc w c e).heap[b]? = w.heap[b]? := by
  show (w.heap.push _)[b]? = _
  rw [Array.getElem?_push, if_neg (Nat.ne_of_lt hb)]
theorem heap_alc_new {c : Array Value} {e : TypeId} : (alc w c e).heap[w.heap.size]? = some (.cells c e (0, 0)) := by
  show (w.heap.push _)[w.heap.size]? = _
  rw [Array.getElem?_push, if_pos rfl]
theorem size_alc {c : Array Value} {e : TypeId} : (alc w c e).heap.size = w.heap.size + 1 := by simp [alc]

theorem lt_of_heap {b : Nat} {o : Obj} (hb : w.heap[b]? = some o) : b < w.heap.size := by
  rcases Nat.lt_or_ge b w.heap.size with h' | h'
  · exact h'
  · rw [Array.getElem?_eq_none h'] at hb; cases hb

theorem frm_alc (c : Array Value) (e : TypeId) : Frm (fun _ => False) w (alc w c e) where
  size := by rw [size_alc]; omega
  keep := fun b hb _ => heap_alc_old hb
  sizes := fun b m ⟨c', e', fr, hb, hs⟩ => ⟨c', e', fr, by rw [heap_alc_old (lt_of_heap hb)]; exact hb, hs⟩
  os := rfl
  tape := rfl
  output := rfl

theorem Owns.has_lt (own : Owns M h w) {b : Nat} (hb : h.has b) : b < w.heap.size := by
  obtain ⟨k, hk⟩ := hb
  obtain ⟨c, e, hh, _⟩ := own.ok b k hk
  exact lt_of_heap hh

theorem has_cons {b b' : Nat} {k : Blk} : Heap.has ((b, k) :: h) b' ↔ b' = b ∨ h.has b' := by
  unfold Heap.has
  constructor
  · rintro ⟨k', hk⟩
    rcases List.mem_cons.1 hk with hk | hk
    · cases hk; exact .inl rfl
    · exact .inr ⟨k', hk⟩
  · rintro (rfl | ⟨k', hk⟩)
    · exact ⟨k, List.mem_cons_self⟩
    · exact ⟨k', List.mem_cons_of_mem _ hk⟩

theorem has_map {b : Nat} : h.has b ↔ b ∈ h.map (·.1) := by
  unfold Heap.has
  rw [List.mem_map]
  constructor
  · rintro ⟨k, hk⟩; exact ⟨(b, k), hk, rfl⟩
  · rintro ⟨⟨b', k⟩, hk, rfl⟩; exact ⟨k, hk⟩

/-- What was seen is seen behind a new block that is hidden. -/
theorem env_alc (_ : Owns M h w) (c : Array Value) (e : TypeId) (k : Blk) : (envOf (hid M h) w).le (envOf (hid M ((w.heap.size, k) :: h)) (alc w c e)) :=
  env_le (frm_alc c e) (fun _ x _ => x.elim) (fun b hb x => by
    rcases x with x | x
    · exact .inl x
    · rcases has_cons.1 x with x | x
      · omega
      · exact .inr x)

theorem Owns.alc (own : Owns M h w) {c : Array Value} {e : TypeId} {k : Blk} (hl : k.len ≤ c.size) (hr : ∀ i, i < k.len → Rep (envOf (hid M h) w) (c.getD i undef) (k.get i)) :
    Owns M ((w.heap.size, k) :: h) (alc w c e) where
  nodup := by
    rw [List.map_cons, List.nodup_cons]
    refine ⟨fun hm => ?_, own.nodup⟩
    have := own.has_lt (has_map.2 hm)
    omega
  notM := fun b hb hm => by
    rcases has_cons.1 hb with rfl | hb
    · have := own.lt _ hm; omega
    · exact own.notM b hb hm
  lt := fun b hm => by have := own.lt b hm; rw [size_alc]; omega
  ok := fun b k' hm => by
    rcases List.mem_cons.1 hm with hm | hm
    · cases hm
      exact ⟨c, e, heap_alc_new, hl, fun i hi => (hr i hi).mono (env_alc own c e k)⟩
    · obtain ⟨c', e', hb, hl', hr'⟩ := own.ok b k' hm
      exact ⟨c', e', by rw [heap_alc_old (lt_of_heap hb)]; exact hb, hl', fun i hi => (hr' i hi).mono (env_alc own c e k)⟩

/-- An operation makes a block and hands back what leads to it. -/
structure NewOK (P : Program) (M : Nat → Prop) (h : Heap) (w : World) (x : Sem Value) (k : Blk) (mk : Nat → SV) : Prop where
  ex : ∃ c e u, x.run P w = .ok u (alc w c e) ∧ k.len ≤ c.size ∧ (∀ i, i < k.len → Rep (envOf (hid M h) w) (c.getD i undef) (k.get i)) ∧
    Rep (envOf (hid M ((w.heap.size, k) :: h)) (Ab.alc w c e)) u (mk w.heap.size)

theorem box_sound {e : TypeId} {u : Value} {x : SV} {cs : List SV} (hx : Rep (envOf (hid M h) w) u x) (hc : svCells x = some cs) :
    NewOK P M h w (Instr.box e u) (.svs cs) (fun b => .op b 0) := by
  obtain ⟨hl, hr, _⟩ := svCells_spec hx hc
  exact ⟨_, e, _, rfl, by simp only [Blk.len]; omega, fun i hi => hr i hi, .op _ _⟩

theorem zk_spec {t : TypeId} {z : List Value} (hz : zk P t = some z) : ∃ i v, P.info? t = some i ∧ i.zero = some v ∧ v.cells.toList = z := by
  unfold zk at hz
  split at hz
  · rename_i i hi
    split at hz
    · rename_i v hv
      cases hz
      exact ⟨i, v, hi, hv, rfl⟩
    · cases hz
  · cases hz

theorem run_zeroValue {t : TypeId} {i : TypeInfo} {v : Value} (hi : P.info? t = some i) (hz : i.zero = some v) : (zeroValue t).run P w = .ok v w := by
  simp [zeroValue, run_typeInfo hi, hz]

theorem getD_toList {α : Type} (c : Array α) (i : Nat) (d : α) : c.getD i d = c.toList.getD i d := by
  simp [Array.getD_eq_getD_getElem?, List.getD_eq_getElem?_getD]

theorem alloc_sound {t : TypeId} {z : List Value} (hz : zk P t = some z) :
    NewOK P M h w (Instr.alloc t true (.tuple #[])) (.svs (z.map .sc)) (fun b => .op b 0) := by
  obtain ⟨i, v, hi, hv, rfl⟩ := zk_spec hz
  refine ⟨v.cells, t, .pointer (some ⟨w.heap.size, 0, none⟩), ?_, by simp [Blk.len], fun i hi => ?_, .op _ _⟩
  · simp only [Instr.alloc, Sem.run_bind, run_zeroValue hi hv, Result.andThen_ok, Sem.run_pure, newVar, newRow, run_newObj]
    rfl
  · simp only [Blk.len, List.length_map] at hi
    simp only [Blk.get, List.getD_eq_getElem?_getD, List.getElem?_map, List.getElem?_eq_getElem hi, Option.map_some, Option.getD_some]
    rw [getD_toList, getD_list _ _ _ hi]
    exact .sc _

/-! ### building aggregates and slices -/

def setAll (l : List SV) (off : Nat) (cs : List SV) : List SV := match cs with
  | [] => l
  | c :: r => setAll (l.set off c) (off + 1) r

def fillSV (place : Nat → Option (Nat × Nat)) (l : List SV) (ps : List (Nat × SV)) : Option (List SV) := match ps with
  | [] => some l
  | (i, v) :: r => match place i, svCells v with
    | some (off, n), some cs => if cs.length = n ∧ off + n ≤ l.length then fillSV place (setAll l off cs) r else none
    | _, _ => none

theorem length_setAll : ∀ (cs l : List SV) (off : Nat), (setAll l off cs).length = l.length
  | [], _, _ => rfl
  | c :: r, l, off => by rw [setAll, length_setAll r]; simp

def putAll (c : Array Value) (off : Nat) (vs : List Value) : Array Value := match vs with
  | [] => c
  | v :: r => putAll (c.setIfInBounds off v) (off + 1) r

theorem putAll_fold (off : Nat) : ∀ (vs : List Value) (k : Nat) (c : Array Value), (vs.zipIdx k).foldl (fun cs (x : Value × Nat) => cs.setIfInBounds (off + x.2) x.1) c = putAll c (off + k) vs
  | [], _, _ => rfl
  | v :: r, k, c => by
    simp only [List.zipIdx_cons, List.foldl_cons, putAll]
    rw [putAll_fold off r (k + 1)]
    congr 1

theorem size_putAll : ∀ (vs : List Value) (c : Array Value) (off : Nat), (putAll c off vs).size = c.size
  | [], _, _ => rfl
  | v :: r, c, off => by rw [putAll, size_putAll r]; simp

theorem rep_putAll {E : Env} : ∀ (cs : List SV) (vs : List Value) (c : Array Value) (l : List SV) (off : Nat), vs.length = cs.length → c.size = l.length →
    (∀ i, i < cs.length → Rep E (vs.getD i undef) (cs.getD i .any)) → (∀ i, i < l.length → Rep E (c.getD i undef) (l.getD i .any)) →
    ∀ i, i < l.length → Rep E ((putAll c off vs).getD i undef) ((setAll l off cs).getD i .any)
  | [], [], c, l, off, _, _, _, h2 => h2
  | [], _ :: _, _, _, _, h, _, _, _ => by simp at h
  | _ :: _, [], _, _, _, h, _, _, _ => by simp at h
  | s :: cs, v :: vs, c, l, off, hl, hs, h1, h2 => by
    intro i hi
    rw [putAll, setAll]
    refine rep_putAll cs vs _ _ (off + 1) (by simpa using hl) (by simpa using hs) (fun j hj => ?_) (fun j hj => ?_) i (by simpa using hi)
    · have := h1 (j + 1) (by simpa using hj)
      simpa using this
    · have hj' : j < l.length := by simpa using hj
      by_cases hjo : off = j
      · subst hjo
        have hc : off < c.size := by omega
        have := h1 0 (by simp)
        simpa [hc, hj'] using this
      · have := h2 j hj'
        simpa [Array.getElem?_setIfInBounds_ne hjo, List.getElem?_set_ne hjo, List.getD_eq_getElem?_getD] using this

theorem fill_sound {E : Env} {place : Nat → Option (Nat × Nat)} : ∀ (ps : List (Nat × SV)) (qs : List (Nat × Value)) (c : Array Value) (l r : List SV),
    qs.map (·.1) = ps.map (·.1) → (∀ i, i < ps.length → Rep E (qs.getD i (0, undef)).2 (ps.getD i (0, .any)).2) → c.size = l.length → (∀ i, i < l.length → Rep E (c.getD i undef) (l.getD i .any)) →
    fillSV place l ps = some r → ∃ c', Instr.fill place c qs = some c' ∧ c'.size = r.length ∧ ∀ i, i < r.length → Rep E (c'.getD i undef) (r.getD i .any)
  | [], [], c, l, r, _, _, hs, h2, hf => by
    cases hf
    exact ⟨c, rfl, hs, h2⟩
  | [], _ :: _, _, _, _, h, _, _, _, _ => by simp at h
  | _ :: _, [], _, _, _, h, _, _, _, _ => by simp at h
  | (i, s) :: ps, (i', v) :: qs, c, l, r, hm, hr, hs, h2, hf => by
    simp only [List.map_cons, List.cons.injEq] at hm
    obtain ⟨rfl, hm⟩ := hm
    simp only [fillSV] at hf
    split at hf
    · rename_i off n cs hp hc
      by_cases hb : cs.length = n ∧ off + n ≤ l.length
      · rw [if_pos hb] at hf
        obtain ⟨rfl, hle⟩ := hb
        have h0 := hr 0 (by simp)
        simp only [List.getD_cons_zero] at h0
        obtain ⟨hv1, hv2, _⟩ := svCells_spec h0 hc
        have hstep : Instr.fill place c ((i', v) :: qs) = Instr.fill place (putAll c off v.cells.toList) qs := by
          have hfold : v.cells.zipIdx.foldl (fun cs (x : Value × Nat) => cs.setIfInBounds (off + x.2) x.1) c = putAll c off v.cells.toList := by
            rw [← Array.foldl_toList, Array.toList_zipIdx]
            exact putAll_fold off _ 0 c
          have hnot : ¬ (v.cells.size ≠ cs.length ∨ off + v.cells.size > c.size) := by omega
          rw [Instr.fill]
          simp only [hp, Bool.or_eq_true, decide_eq_true_eq]
          rw [if_neg hnot]
          rw [← hfold]
        rw [hstep]
        refine fill_sound ps qs _ _ r hm (fun j hj => ?_) (by rw [size_putAll, length_setAll]; exact hs) (fun j hj => ?_) hf
        · have := hr (j + 1) (by simpa using hj)
          simpa using this
        · rw [length_setAll] at hj
          exact rep_putAll cs _ c l off (by rw [Array.length_toList]; exact hv1) hs (fun k hk => by rw [← getD_toList]; exact hv2 k hk) h2 j hj
      · rw [if_neg hb] at hf
        cases hf
    · cases hf

/-- The fields' places. -/
def flk (P : Program) (t : TypeId) : Option (List (Nat × Nat)) :=
  match P.underlying t with
  | some (.struct fs) => bif fs.toList.all (fun f => (P.info? f.type).isSome) then some (fs.toList.map fun f => (f.offset, P.cellsOf f.type)) else none
  | _ => none

def buildSV (F : Option (List (Nat × Nat))) (A : Option (Nat × Nat)) (Z : Option (List Value)) (ps : List (Nat × SV)) : VRes :=
  match Z with
  | none => .bad
  | some z => match F with
    | some fl => match fillSV (fun i => fl[i]?) (z.map .sc) ps with
      | some r => .ok True (.agg r)
      | none => .bad
    | none => match A with
      | some (_, s) => match fillSV (fun i => some (i * s, s)) (z.map .sc) ps with
        | some r => .ok True (.agg r)
        | none => .bad
      | none => .bad

theorem run_listMapM {α β : Type} (f : α → Sem β) (g : α → β) : ∀ (l : List α), (∀ x ∈ l, (f x).run P w = .ok (g x) w) → (l.mapM f).run P w = .ok (l.map g) w
  | [], _ => by simp
  | x :: l, hx => by
    have := run_listMapM f g l (fun y hy => hx y (List.mem_cons_of_mem _ hy))
    simp [List.mapM_cons, hx x List.mem_cons_self, this]

theorem zeros_rep {E : Env} (z : Array Value) : ∀ i, i < (z.toList.map SV.sc).length → Rep E (z.getD i undef) ((z.toList.map SV.sc).getD i .any) := fun i hi => by
  simp only [List.length_map] at hi
  rw [getD_toList, getD_list _ _ _ hi]
  simp only [List.getD_eq_getElem?_getD, List.getElem?_map, List.getElem?_eq_getElem hi, Option.map_some, Option.getD_some]
  exact .sc _

theorem build_sound {t : TypeId} {ps : List (Nat × SV)} {qs : Array (Nat × Value)} {v : SV} {pre : Prop} (hm : qs.toList.map (·.1) = ps.map (·.1))
    (hr : ∀ i, i < ps.length → Rep (envOf (hid M h) w) (qs.toList.getD i (0, undef)).2 (ps.getD i (0, .any)).2)
    (hv : buildSV (flk P t) (ark P t) (zk P t) ps = .ok pre v) : ∃ r, (Instr.build t qs).run P w = .ok r w ∧ Rep (envOf (hid M h) w) r v := by
  unfold buildSV at hv
  cases hZ : zk P t with
  | none => simp [hZ] at hv
  | some z =>
    obtain ⟨i, zv, hi, hzv, rfl⟩ := zk_spec hZ
    simp only [hZ] at hv
    cases hF : flk P t with
    | some fl =>
      simp only [hF] at hv
      split at hv
      · rename_i r hf
        cases hv
        unfold flk at hF
        split at hF
        · rename_i fs hu
          by_cases hall : (fs.toList.all fun f => (P.info? f.type).isSome) = true
          · rw [hall] at hF
            simp only [cond_true, Option.some.injEq] at hF
            subst hF
            have hmap : (fs.mapM fun f => do pure (f.offset, ← sizeOf f.type) : Sem (Array (Nat × Nat))).run P w = .ok ((fs.toList.map fun f => (f.offset, P.cellsOf f.type)).toArray) w := by
              rw [Array.mapM_eq_mapM_toList]
              simp only [Sem.run_map]
              rw [run_listMapM _ (fun f : Field => (f.offset, P.cellsOf f.type)) _ (fun f hf => by
                obtain ⟨j, hj⟩ := Option.isSome_iff_exists.1 (List.all_eq_true.1 hall f hf)
                simp [run_sizeOf_info hj, Program.cellsOf, hj])]
              simp
            obtain ⟨c', hc', hs', hr'⟩ := fill_sound ps qs.toList zv.cells _ r hm hr (by simp) (zeros_rep zv.cells) hf
            refine ⟨.agg c', ?_, .agg _ _ hs' hr'⟩
            simp only [Instr.build, Sem.run_bind, run_zeroValue hi hzv, Result.andThen_ok, run_underlying hu, hmap, List.getElem?_toArray]
            rw [hc']
            rfl
          · simp only [Bool.not_eq_true] at hall
            rw [hall] at hF
            simp at hF
        · cases hF
      · cases hv
    | none =>
      simp only [hF] at hv
      cases hA : ark P t with
      | none => simp [hA] at hv
      | some ns =>
        obtain ⟨n, s⟩ := ns
        simp only [hA] at hv
        split at hv
        · rename_i r hf
          cases hv
          obtain ⟨e, j, hu, hin, rfl⟩ := ark_spec hA
          obtain ⟨c', hc', hs', hr'⟩ := fill_sound ps qs.toList zv.cells _ r hm hr (by simp) (zeros_rep zv.cells) hf
          refine ⟨.agg c', ?_, .agg _ _ hs' hr'⟩
          simp only [Instr.build, Sem.run_bind, run_zeroValue hi hzv, Result.andThen_ok, run_underlying hu, run_sizeOf_info hin]
          rw [hc']
          rfl
        · cases hv

end
end Go.Ab
/- New slices; the yield of every operation that only computes or makes a block; its soundness. -/
namespace Go.Ab
open Go.RowKit

section
variable {P : Program} {M : Nat → Prop} {h : Heap} {w : World}

theorem length_zfill (z : List Value) : ∀ n, (zfill z n).length = n * z.length
  | 0 => by simp [zfill]
  | n + 1 => by simp [zfill, length_zfill z n, Nat.add_mul]; omega

theorem getD_zfill (z : List Value) : ∀ n i, i < n * z.length → (zfill z n).getD i .any = .sc (z.getD (i % z.length) undef)
  | 0, i, h => by omega
  | n + 1, i, h => by
    rw [Nat.add_mul, Nat.one_mul] at h
    by_cases hi : i < z.length
    · rw [Nat.mod_eq_of_lt hi, zfill, List.getD_eq_getElem?_getD, List.getElem?_append_left (by simpa using hi)]
      simp [hi]
    · rw [zfill, List.getD_eq_getElem?_getD, List.getElem?_append_right (by simpa using hi), ← List.getD_eq_getElem?_getD]
      simp only [List.length_map]
      rw [getD_zfill z n (i - z.length) (by omega)]
      congr 2
      exact (Nat.mod_eq_sub_mod (by omega)).symm

theorem getElem!_toArr (z : Array Value) (i : Nat) (hi : i < z.size) : z[i]! = z.toList.getD i undef := by
  simp [hi]

/-- The cells of a new slice, as the model lays them. -/
theorem mkCells (z : Array Value) (n i : Nat) (hi : i < n * z.size) : ((Array.range (n * z.size)).map (z[· % z.size]!)).getD i undef = z.toList.getD (i % z.size) undef := by
  have hs : 0 < z.size := Nat.pos_of_ne_zero (fun h => by rw [h] at hi; omega)
  have hm : i % z.size < z.size := Nat.mod_lt _ hs
  simp [hi, hm]

theorem zeros_len (z : List Value) (n : Nat) : (zeros z n).len ≤ n * z.length := by
  unfold zeros
  split <;> simp [Blk.len, length_zfill]

theorem zeros_get {E : Env} (z : Array Value) (n i : Nat) (hi : i < (zeros z.toList n).len) :
    Rep E (((Array.range (n * z.size)).map (z[· % z.size]!)).getD i undef) ((zeros z.toList n).get i) := by
  have hlt : i < n * z.size := Nat.lt_of_lt_of_le hi (by simpa using zeros_len z.toList n)
  rw [mkCells z n i hlt]
  generalize hz : z.toList = l at *
  have hsz : z.size = l.length := by rw [← hz]; simp
  rw [hsz] at hlt ⊢
  unfold zeros at *
  split
  · rename_i k
    simp only [List.length_singleton, Nat.mod_one] at *
    simp only [Blk.get, List.getD_cons_zero]
    rw [show (List.replicate n (0 : Int)).getD i 0 = 0 by simp [List.getD_eq_getElem?_getD, List.getElem?_replicate]; split <;> rfl]
    exact .sc _
  · simp only [List.length_singleton, Nat.mod_one] at *
    simp only [Blk.get, List.getD_cons_zero]
    rw [show (List.replicate n false).getD i false = false by simp [List.getD_eq_getElem?_getD, List.getElem?_replicate]; split <;> rfl]
    exact .sc _
  · simp only [Blk.get]
    rw [getD_zfill l n i hlt]
    exact .sc _

theorem i64_wrap {n : Int} (h1 : -9223372036854775808 ≤ n) (h2 : n ≤ 9223372036854775807) : IntKind.i64.wrap n = n := by
  have e : (2 : Int) ^ 64 = 18446744073709551616 := by decide
  have e' : (2 : Int) ^ 63 = 9223372036854775808 := by decide
  show (if (true && decide (n % (2 : Int) ^ 64 ≥ (2 : Int) ^ 63)) = true then n % (2 : Int) ^ 64 - (2 : Int) ^ 64 else n % (2 : Int) ^ 64) = n
  simp only [e, e', Bool.true_and, decide_eq_true_eq]
  split <;> omega

theorem make_sound {t : TypeId} {u u' : Value} {l c : SV} {pre : Prop} {k : Blk} {mk : Nat → SV} (hl : Rep (envOf (hid M h) w) u l) (hc : Rep (envOf (hid M h) w) u' c)
    (hv : makeSV (slk P t) (match slk P t with | some (e, _, _) => zk P e | none => none) l c = .new pre k mk) (hp : pre) : NewOK P M h w (Instr.makeSlice t u u') k mk := by
  cases hL : slk P t with
  | none => simp [hL, makeSV] at hv
  | some x =>
    obtain ⟨e, s, bytes⟩ := x
    simp only [hL] at hv
    cases hZ : zk P e with
    | none => simp [hZ, makeSV] at hv
    | some z =>
      simp only [hZ] at hv
      unfold makeSV at hv
      split at hv
      · rename_i _ _ s' bytes' z' kk n kk' m h1 h2
        cases h1; cases h2; cases hv
        cases hl; cases hc
        obtain ⟨h0, h1, h2, h3, h4, h5⟩ := hp
        obtain ⟨i, hu, hin, rfl, rfl⟩ := slk_spec hL
        obtain ⟨i', zv, hi', hzv, rfl⟩ := zk_spec hZ
        rw [hin] at hi'; cases hi'
        have hsz : zv.cells.size = i.size := by simpa using h4
        have e48 : (2 ^ 48 : Int) = 281474976710656 := by decide
        by_cases hm0 : m.toNat = 0
        · refine ⟨⟨#[], e, .slice (some ⟨w.heap.size, 0, none⟩) n.toNat m.toNat, ?_, ?_, fun j hj => ?_, ?_⟩⟩
          · have hn1 : ¬ (n < 0) := by omega
            have hn2 : ¬ (m < n) := by omega
            have hm1 : ¬ (m < 0) := by omega
            have hm2 : ¬ (281474976710656 < (i.bytes : Int) * m) := by omega
            simp [Instr.makeSlice, run_underlying hu, asInt, asIntOf, run_typeInfo hin, i64_wrap (n := n) (by omega) (by omega), i64_wrap (n := m) (by omega) (by omega), hn1, hn2, hm1, hm2, run_sizeOf_info hin, hm0, newRow, alc, Array.range_zero']
          · rw [hm0]; have := zeros_len zv.cells.toList 0; simp at this ⊢; omega
          · rw [hm0] at hj; have := zeros_len zv.cells.toList 0; simp at this; omega
          · rw [hm0]
            refine .os _ 0 _ _ _ 0 (by omega) ⟨_, _, _, heap_alc_new, by simp⟩ (by simp)
        · have hpos : 0 < m.toNat * i.size := Nat.mul_pos (Nat.pos_of_ne_zero hm0) h5
          refine ⟨⟨(Array.range (m.toNat * zv.cells.size)).map (zv.cells[· % zv.cells.size]!), e, .slice (some ⟨w.heap.size, 0, none⟩) n.toNat m.toNat, ?_, ?_, fun j hj => zeros_get _ _ _ hj, ?_⟩⟩
          · have hn1 : ¬ (n < 0) := by omega
            have hn2 : ¬ (m < n) := by omega
            have hm1 : ¬ (m < 0) := by omega
            have hm2 : ¬ (281474976710656 < (i.bytes : Int) * m) := by omega
            have hne : ¬ (m.toNat * i.size = 0) := by omega
            have hz0 := run_zeroValue (P := P) (w := w) hin hzv
            have hb : ((decide (m < 0) || decide ((i.bytes : Int) * m > 2 ^ 48)) || decide (n < 0) || decide (n > m)) = false := by rw [e48]; simp; omega
            simp only [Instr.makeSlice, Sem.run_bind, run_underlying hu, Result.andThen_ok, asInt, asIntOf, Sem.run_pure, run_typeInfo hin, i64_wrap (n := n) (by omega) (by omega), i64_wrap (n := m) (by omega) (by omega),
              hb, Bool.false_eq_true, if_false, run_askRoom, run_sizeOf_info hin, if_neg hne, hz0, newRow, run_newObj, hsz]
            rfl
          · have := zeros_len zv.cells.toList m.toNat; simpa using this
          · refine .os _ 0 _ _ _ (m.toNat * zv.cells.size) (by omega) ⟨_, _, _, heap_alc_new, by simp⟩ (by rw [hsz]; simp)
      · cases hv

end
end Go.Ab
/- The yield of every operation that only computes, or makes a block; its soundness. -/
namespace Go.Ab
open Go.RowKit

def buildSliceSV (L : Option (TypeId × Nat × Nat)) (Z : Option (List Value)) (len : Nat) (ps : List (Nat × SV)) : VRes :=
  match L with
  | none => .bad
  | some (_, s, _) => match Z with
    | none => .bad
    | some z => match fillSV (fun i => some (i * s, s)) (zfill z len) ps with
      | some r => .new (z.length = s ∧ len * s ≤ 16777216 ∧ 0 < s) (.svs r) (fun b => .os b 0 len s)
      | none => .bad

def elemZ (P : Program) (t : TypeId) : Option (List Value) := match slk P t with | some (e, _, _) => zk P e | none => none

def boxSV (x : SV) : VRes := match svCells x with
  | some cs => .new True (.svs cs) (fun b => .op b 0)
  | none => .bad
def allocSV (Z : Option (List Value)) : VRes := match Z with
  | some z => .new True (.svs (z.map .sc)) (fun b => .op b 0)
  | none => .bad
def pickSV (c a b : SV) : VRes := match c with
  | .sc (.bool t) => .ok True (bif t then a else b)
  | _ => .bad
def tupSV (x : SV) (i : Nat) : VRes := match x with
  | .tup cs => .ok (i < cs.length) (cs.getD i .any)
  | _ => .bad
def capSV (L : Option (TypeId × Nat × Nat)) (x : SV) : VRes := match L, x with
  | some _, .sc (.slice none _ c) => .ok True (.sc (.int .i64 c))
  | _, _ => .bad
def minSV (x y : SV) : VRes := match x, y with
  | .sc (.int k a), .sc (.int _ b) => .ok True (.sc (.int k (if b < a then b else a)))
  | _, _ => .bad
def maxSV (x y : SV) : VRes := match x, y with
  | .sc (.int k a), .sc (.int _ b) => .ok True (.sc (.int k (if a < b then b else a)))
  | _, _ => .bad

/-- The yield of an operation. -/
def valOp (P : Program) (op : Op) (ρ : Operand → SV) (h : Heap) : VRes :=
  match op with
  | .move x => .ok True (ρ x)
  | .assign x => .ok True (ρ x)
  | .pick c a b => pickSV (ρ c) (ρ a) (ρ b)
  | .binOp op t x y _ => binSV P op t (ρ x) (ρ y)
  | .unOp op _ x => unSV op (ρ x)
  | .load t x => loadSV (tk P t) (ρ x) h
  | .indexAddr t x i => indexAddrSV (slk P t) (ark P t) (ρ x) (ρ i)
  | .index t x i => indexSV (isStr P t) (ρ x) (ρ i)
  | .fieldAddr s x f => fieldAddrSV (fdk P s f) (ρ x)
  | .field s x f => fieldSV (fdk P s f) (ρ x)
  | .extract x i => tupSV (ρ x) i
  | .nilCheck x => nilSV (ρ x)
  | .slice t x lo hi mx => sliceSV (isStr P t) (slk P t) (ρ x) (lo.map ρ) (hi.map ρ) (mx.map ρ)
  | .convert s d x => bif (P.underlying s).isSome then convSV (ik P d) (isStr P d) (ρ x) else .bad
  | .box _ x => boxSV (ρ x)
  | .alloc e => allocSV (zk P e)
  | .build t ps => buildSV (flk P t) (ark P t) (zk P t) (ps.toList.map fun (i, x) => (i, ρ x))
  | .buildSlice t n ps => buildSliceSV (slk P t) (elemZ P t) n (ps.toList.map fun (i, x) => (i, ρ x))
  | .makeSlice t l c => makeSV (slk P t) (elemZ P t) (ρ l) (ρ c)
  | .makeFunc fn a c => .ok True (.fn fn (a.toList.map ρ) (c.toList.map ρ))
  | .call { callee := .builtin .len, args := ⟨[x]⟩, argTypes := ⟨[t]⟩ } => lenSV (isStr P t) (slk P t) (ark P t) (ρ x)
  | .call { callee := .builtin .cap, args := ⟨[x]⟩, argTypes := ⟨[t]⟩ } => capSV (slk P t) (ρ x)
  | .call { callee := .builtin .min, args := ⟨[x, y]⟩, argTypes := _ } => minSV (ρ x) (ρ y)
  | .call { callee := .builtin .max, args := ⟨[x, y]⟩, argTypes := _ } => maxSV (ρ x) (ρ y)
  | _ => .bad

section
variable {P : Program} {M : Nat → Prop} {h : Heap} {w : World}

theorem fillLen {place : Nat → Option (Nat × Nat)} : ∀ (ps : List (Nat × SV)) (l r : List SV), fillSV place l ps = some r → r.length = l.length
  | [], l, r, h => by cases h; rfl
  | (i, v) :: ps, l, r, h => by
    simp only [fillSV] at h
    split at h
    · rename_i off n cs _ _
      by_cases hb : cs.length = n ∧ off + n ≤ l.length
      · rw [if_pos hb] at h
        rw [fillLen ps _ _ h, length_setAll]
      · rw [if_neg hb] at h
        cases h
    · cases h

theorem buildSlice_sound {t : TypeId} {n : Nat} {ps : List (Nat × SV)} {qs : Array (Nat × Value)} {pre : Prop} {k : Blk} {mk : Nat → SV} (hm : qs.toList.map (·.1) = ps.map (·.1))
    (hr : ∀ i, i < ps.length → Rep (envOf (hid M h) w) (qs.toList.getD i (0, undef)).2 (ps.getD i (0, .any)).2)
    (hv : buildSliceSV (slk P t) (elemZ P t) n ps = .new pre k mk) (hp : pre) : NewOK P M h w (Instr.buildSlice t n qs) k mk := by
  unfold buildSliceSV elemZ at hv
  cases hL : slk P t with
  | none => simp [hL] at hv
  | some x =>
    obtain ⟨e, s, bytes⟩ := x
    simp only [hL] at hv
    cases hZ : zk P e with
    | none => simp [hZ] at hv
    | some z =>
      simp only [hZ] at hv
      split at hv
      · rename_i r hf
        cases hv
        obtain ⟨h3, h4, h5⟩ := hp
        obtain ⟨i, hu, hin, rfl, rfl⟩ := slk_spec hL
        obtain ⟨i', zv, hi', hzv, rfl⟩ := zk_spec hZ
        rw [hin] at hi'; cases hi'
        have hsz : zv.cells.size = i.size := by simpa using h3
        have e24 : ¬ (n * i.size > 2 ^ 24) := by omega
        have hcell : ∀ j, j < (zfill zv.cells.toList n).length → Rep (envOf (hid M h) w) (((Array.range (n * zv.cells.size)).map (zv.cells[· % zv.cells.size]!)).getD j undef) ((zfill zv.cells.toList n).getD j .any) := fun j hj => by
          have hj' : j < n * zv.cells.size := by rw [length_zfill] at hj; simpa using hj
          rw [mkCells _ _ _ hj', getD_zfill _ _ _ (by simpa using hj')]
          rw [show zv.cells.toList.length = zv.cells.size by simp]
          exact .sc _
        obtain ⟨c', hc', hs', hr'⟩ := fill_sound ps qs.toList _ _ r hm hr (by rw [length_zfill]; simp) hcell hf
        refine ⟨⟨c', e, .slice (some ⟨w.heap.size, 0, none⟩) n n, ?_, by simp only [Blk.len]; omega, hr', ?_⟩⟩
        · by_cases h0 : n * i.size = 0
          · have hn : n = 0 := by rcases Nat.mul_eq_zero.1 h0 with h | h <;> omega
            subst hn
            simp only [Nat.zero_mul, Array.range_zero'] at hc'
            rw [Nat.zero_mul] at e24
            simp only [Array.map_empty] at hc'
            simp only [Instr.buildSlice, Sem.run_bind, run_underlying hu, Result.andThen_ok, run_sizeOf_info hin, Sem.run_pure, Nat.zero_mul, if_neg e24, if_true, Array.range_zero', Array.map_empty]
            rw [hc']
            rfl
          · simp only [Instr.buildSlice, Sem.run_bind, run_underlying hu, Result.andThen_ok, run_sizeOf_info hin, if_neg e24, Sem.run_pure, if_neg h0, run_zeroValue hin hzv]
            rw [← hsz] at *
            rw [hc']
            rfl
        · have hlen : r.length = n * i.size := by
            have := fillLen _ _ _ hf
            rw [this, length_zfill]; simp [hsz]
          exact .os _ 0 _ _ _ c'.size (Nat.le_refl _) ⟨_, _, _, heap_alc_new, rfl⟩ (by rw [hs', hlen]; simp)
      · cases hv
end
end Go.Ab
/- Every operation that only computes, or makes a block: the model's run yields what is said. -/
namespace Go.Ab
open Go.RowKit

section
variable {P : Program} {M : Nat → Prop} {h : Heap} {w : World}

def asNext (x : Sem Value) : Sem Next := do pure (.value (← x))

theorem run_asNext {x : Sem Value} {r : Value} {w' : World} (hx : x.run P w = .ok r w') : (asNext x).run P w = .ok (.value r) w' := by
  simp [asNext, hx]

theorem pairs_map {σ : Operand → Value} (ps : Array (Nat × Operand)) (ρ : Operand → SV) : (ps.map fun (i, x) => (i, σ x)).toList.map (·.1) = (ps.toList.map fun (i, x) => (i, ρ x)).map (·.1) := by
  simp [Function.comp_def]

theorem pairs_rep {E : Env} {σ : Operand → Value} {ρ : Operand → SV} (hr : ∀ x, Rep E (σ x) (ρ x)) (ps : Array (Nat × Operand)) :
    ∀ i, i < (ps.toList.map fun (i, x) => (i, ρ x)).length → Rep E ((ps.map fun (i, x) => (i, σ x)).toList.getD i (0, undef)).2 ((ps.toList.map fun (i, x) => (i, ρ x)).getD i (0, .any)).2 := by
  intro i hi
  simp only [List.length_map, Array.length_toList] at hi
  simp only [Array.toList_map, List.getD_eq_getElem?_getD, List.getElem?_map, Array.getElem?_toList, Array.getElem?_eq_getElem hi, Option.map_some, Option.getD_some]
  exact hr _

theorem ops_rep {E : Env} {σ : Operand → Value} {ρ : Operand → SV} (hr : ∀ x, Rep E (σ x) (ρ x)) (xs : Array Operand) :
    (xs.map σ).size = (xs.toList.map ρ).length ∧ ∀ i, i < (xs.toList.map ρ).length → Rep E ((xs.map σ).getD i undef) ((xs.toList.map ρ).getD i .any) := by
  refine ⟨by simp, fun i hi => ?_⟩
  simp only [List.length_map, Array.length_toList] at hi
  rw [getD_toList]
  simp only [Array.toList_map, List.getD_eq_getElem?_getD, List.getElem?_map, Array.getElem?_toList, Array.getElem?_eq_getElem hi, Option.map_some, Option.getD_some]
  exact hr _

theorem orep {E : Env} {σ : Operand → Value} {ρ : Operand → SV} (hr : ∀ x, Rep E (σ x) (ρ x)) (o : Option Operand) : ORep E (o.map σ) (o.map ρ) := by
  cases o with
  | none => trivial
  | some x => exact hr x

theorem valOp_ok {o : Oper} {σ : Operand → Value} {ρ : Operand → SV} {pre : Prop} {v : SV} (own : Owns M h w) (hr : ∀ x, Rep (envOf (hid M h) w) (σ x) (ρ x))
    (hv : valOp P o.op ρ h = .ok pre v) (hp : pre) : ∃ r, (execOp σ o).run P w = .ok (.value r) w ∧ Rep (envOf (hid M h) w) r v := by
  obtain ⟨dst, op, type, pos, after, guard⟩ := o
  simp only at hv
  have via : ∀ {x : Sem Value}, (∃ r, x.run P w = .ok r w ∧ Rep (envOf (hid M h) w) r v) → ∃ r, (asNext x).run P w = .ok (.value r) w ∧ Rep (envOf (hid M h) w) r v :=
    fun ⟨r, h1, h2⟩ => ⟨r, run_asNext h1, h2⟩
  unfold valOp at hv
  split at hv
  · rename_i x; cases hv; exact ⟨_, rfl, hr x⟩
  · rename_i x; cases hv; exact ⟨_, rfl, hr x⟩
  · rename_i c a b
    have hc := hr c
    unfold pickSV at hv
    split at hv
    · rename_i t ht
      cases hv
      rw [ht] at hc
      generalize hcv : σ c = cv at hc
      cases hc
      refine ⟨if t then σ a else σ b, by simp [execOp, hcv, asBool], ?_⟩
      cases t
      · exact hr b
      · exact hr a
    · cases hv
  · exact via (bin_sound (hr _) (hr _) hv hp)
  · exact via (un_sound (hr _) hv)
  · exact via (load_sound own (hr _) hv hp)
  · exact via (indexAddr_sound (hr _) (hr _) hv hp)
  · exact via (index_sound (hr _) (hr _) hv hp)
  · exact via (fieldAddr_sound (hr _) hv hp)
  · exact via (field_sound (hr _) hv hp)
  · rename_i x i
    unfold tupSV at hv
    split at hv
    · rename_i cs ht
      cases hv
      exact via (tup_sound (ht ▸ hr x) hp)
    · cases hv
  · rename_i x
    unfold nilSV at hv
    have hx := hr x
    split at hv
    · rename_i cs ht
      cases hv
      rw [ht] at hx
      generalize hxv : σ x = xv at hx
      cases hx with
      | fp b off _ val hs hh => exact ⟨.pointer (some ⟨b, off, none⟩), by simp [execOp, hxv], .fp _ _ _ val hs hh⟩
    · rename_i b0 o0 ht
      cases hv
      rw [ht] at hx
      generalize hxv : σ x = xv at hx
      cases hx with
      | op b off => exact ⟨.pointer (some ⟨b0, o0, none⟩), by simp [execOp, hxv], .op _ _⟩
    · rename_i f a c ht
      cases hv
      rw [ht] at hx
      generalize hxv : σ x = xv at hx
      cases hx with
      | fn _ c1 c2 _ _ l1 l2 h1 h2 => exact ⟨.func (.func f) c1 c2, by simp [execOp, hxv], .fn _ _ _ _ _ l1 l2 h1 h2⟩
    · cases hv
  · rename_i t x lo hi mx
    cases mx with
    | some m => exact via (slice3_sound (hr x) (orep hr lo) (orep hr hi) (hr m) hv hp)
    | none => exact via (slice_sound (hr x) (orep hr lo) (orep hr hi) hv hp)
  · rename_i s d x
    by_cases hs : (P.underlying s).isSome = true
    · rw [hs] at hv
      exact via (conv_sound hs (hr x) hv hp)
    · simp only [Bool.not_eq_true] at hs
      rw [hs] at hv
      cases hv
  · rename_i e x; unfold boxSV at hv; split at hv <;> cases hv
  · rename_i e; unfold allocSV at hv; split at hv <;> cases hv
  · rename_i t ps
    exact via (build_sound (pairs_map ps ρ) (pairs_rep hr ps) hv)
  · rename_i t n ps
    unfold buildSliceSV at hv
    split at hv
    · cases hv
    · split at hv
      · cases hv
      · split at hv <;> cases hv
  · unfold makeSV at hv; split at hv <;> cases hv
  · rename_i fn a c
    cases hv
    obtain ⟨a1, a2⟩ := ops_rep hr a
    obtain ⟨c1, c2⟩ := ops_rep hr c
    exact ⟨.func fn (a.map σ) (c.map σ), rfl, .fn _ _ _ _ _ a1 c1 a2 c2⟩
  · rename_i x t
    obtain ⟨r, h1, h2⟩ := len_sound (t := t) (ty := type) (hr x) hv hp
    refine ⟨r, ?_, h2⟩
    simp [execOp, resolve, invoke, builtin, h1]
  · rename_i x t
    unfold capSV at hv
    split at hv
    · rename_i q l c heq h1
      cases hv
      have hx := hr x
      obtain ⟨e, s, b⟩ := q
      obtain ⟨i, hu, -, -, -⟩ := slk_spec heq
      rw [h1] at hx
      generalize hxv : σ x = xv at hx
      cases hx
      refine ⟨_, ?_, .sc _⟩
      simp [execOp, resolve, invoke, builtin, hxv, Builtin.cap_, run_underlying hu, goInt]
    · cases hv
  · rename_i x y at'
    unfold minSV at hv
    split at hv
    · rename_i k a k' b h1 h2
      cases hv
      have hx := hr x
      have hy := hr y
      rw [h1] at hx
      rw [h2] at hy
      generalize hxv : σ x = xv at hx
      generalize hyv : σ y = yv at hy
      cases hx; cases hy
      refine ⟨.int k (if b < a then b else a), ?_, .sc _⟩
      simp [execOp, resolve, invoke, builtin, hxv, hyv, Builtin.min_, Builtin.min2]
    · cases hv
  · rename_i x y at'
    unfold maxSV at hv
    split at hv
    · rename_i k a k' b h1 h2
      cases hv
      have hx := hr x
      have hy := hr y
      rw [h1] at hx
      rw [h2] at hy
      generalize hxv : σ x = xv at hx
      generalize hyv : σ y = yv at hy
      cases hx; cases hy
      refine ⟨.int k (if a < b then b else a), ?_, .sc _⟩
      simp [execOp, resolve, invoke, builtin, hxv, hyv, Builtin.max_, Builtin.max2]
    · cases hv
  · cases hv

theorem valOp_new {o : Oper} {σ : Operand → Value} {ρ : Operand → SV} {pre : Prop} {k : Blk} {mk : Nat → SV} (hr : ∀ x, Rep (envOf (hid M h) w) (σ x) (ρ x))
    (hv : valOp P o.op ρ h = .new pre k mk) (hp : pre) : ∃ x, execOp σ o = asNext x ∧ NewOK P M h w x k mk := by
  obtain ⟨dst, op, type, pos, after, guard⟩ := o
  simp only at hv
  unfold valOp at hv
  split at hv
  all_goals try (cases hv; done)
  · unfold pickSV at hv; split at hv <;> cases hv
  · unfold binSV at hv
    split at hv
    · unfold binII at hv; split at hv <;> cases hv
    · unfold binSS at hv; split at hv <;> cases hv
    · unfold binBB at hv; split at hv <;> cases hv
    · cases hv
  · unfold unSV at hv; split at hv <;> cases hv
  · unfold loadSV at hv
    split at hv
    · cases hv
    · cases hv
    · split at hv <;> cases hv
    · split at hv <;> cases hv
    · cases hv
  · unfold indexAddrSV at hv
    split at hv
    · split at hv
      · split at hv <;> cases hv
      · split at hv <;> cases hv
      · split at hv <;> cases hv
      · split at hv <;> cases hv
      · cases hv
    · cases hv
  · unfold indexSV at hv; split at hv <;> cases hv
  · unfold fieldAddrSV at hv; split at hv <;> cases hv
  · unfold fieldSV at hv; split at hv <;> cases hv
  · unfold tupSV at hv; split at hv <;> cases hv
  · unfold nilSV at hv; split at hv <;> cases hv
  · rename_i t x lo hi mx
    unfold sliceSV at hv
    split at hv
    · split at hv
      · cases hv
      · split at hv
        · split at hv <;> cases hv
        · split at hv <;> cases hv
        · cases hv
    · split at hv
      · split at hv <;> cases hv
      · split at hv <;> cases hv
      · split at hv <;> cases hv
      · split at hv <;> cases hv
      · cases hv
  · rename_i s d x
    by_cases hs : (P.underlying s).isSome = true
    · rw [hs] at hv
      simp only [cond_true] at hv
      unfold convSV at hv
      split at hv
      · split at hv <;> cases hv
      · cases hv
      · cases hv
    · simp only [Bool.not_eq_true] at hs
      rw [hs] at hv
      cases hv
  · rename_i e x
    unfold boxSV at hv
    split at hv
    · rename_i cs hc
      cases hv
      exact ⟨_, rfl, box_sound (hr x) hc⟩
    · cases hv
  · rename_i e
    unfold allocSV at hv
    split at hv
    · rename_i z hz
      cases hv
      exact ⟨_, rfl, alloc_sound hz⟩
    · cases hv
  · rename_i t ps
    unfold buildSV at hv
    split at hv
    · cases hv
    · split at hv
      · split at hv <;> cases hv
      · split at hv
        · split at hv <;> cases hv
        · cases hv
  · rename_i t n ps
    exact ⟨_, rfl, buildSlice_sound (pairs_map ps ρ) (pairs_rep hr ps) hv hp⟩
  · rename_i t l c
    exact ⟨_, rfl, make_sound (hr l) (hr c) hv hp⟩
  · unfold lenSV at hv
    split at hv
    · split at hv <;> cases hv
    · split at hv <;> cases hv
    · split at hv <;> cases hv
    · cases hv
    · split at hv <;> cases hv
  · unfold capSV at hv; split at hv <;> cases hv
  · unfold minSV at hv; split at hv <;> cases hv
  · unfold maxSV at hv; split at hv <;> cases hv

end
end Go.Ab
/- Stores, appends and calls; one step of an activation. -/
namespace Go.Ab
open Go.RowKit

def Reps (E : Env) (vs : Array Value) (ss : List SV) : Prop := vs.size = ss.length ∧ ∀ i, i < ss.length → Rep E (vs.getD i undef) (ss.getD i .any)

theorem Reps.mono {E E' : Env} (hE : E.le E') {vs : Array Value} {ss : List SV} (h : Reps E vs ss) : Reps E' vs ss := ⟨h.1, fun i hi => (h.2 i hi).mono hE⟩

theorem Reps.append {E : Env} {v1 v2 : Array Value} {s1 s2 : List SV} (h1 : Reps E v1 s1) (h2 : Reps E v2 s2) : Reps E (v1 ++ v2) (s1 ++ s2) := by
  refine ⟨by simp [h1.1, h2.1], fun i hi => ?_⟩
  by_cases h : i < s1.length
  · have := h1.2 i h
    rw [getD_toList] at this ⊢
    rw [List.getD_eq_getElem?_getD] at this ⊢
    rw [List.getD_eq_getElem?_getD] at this ⊢
    rw [Array.toList_append, List.getElem?_append_left (by simpa [h1.1] using h), List.getElem?_append_left h]
    exact this
  · have := h2.2 (i - s1.length) (by simp at hi; omega)
    rw [getD_toList] at this ⊢
    rw [List.getD_eq_getElem?_getD] at this ⊢
    rw [List.getD_eq_getElem?_getD] at this ⊢
    rw [Array.toList_append, List.getElem?_append_right (by simp [h1.1]; omega), List.getElem?_append_right (by omega)]
    simpa [h1.1] using this

/-- A call of a function of the program: from these arguments and owned blocks it returns, with such a result and such blocks. -/
def Call (P : Program) (f : FuncId) (args : List SV) (h : Heap) (Q : SV → Heap → Prop) : Prop :=
  (∃ fn, P.funcs[f]? = some fn ∧ fn.body.isNone = false ∧ (fn.name == "runtime.NumGoroutine") = false) ∧
  ∀ (M : Nat → Prop) (w : World) (vs : Array Value), Owns M h w → Reps (envOf (hid M h) w) vs args →
    Calls P f vs w fun e w' => ∃ v r h', e = .returned v ∧ Q r h' ∧ Rep (envOf (hid M h') w') v r ∧ Owns M h' w' ∧ Frm h.has w w' ∧ ∀ b, h'.has b → b < w.heap.size → h.has b

theorem Call.mono {P : Program} {f : FuncId} {args : List SV} {h : Heap} {Q Q' : SV → Heap → Prop} (hc : Call P f args h Q) (hq : ∀ r h', Q r h' → Q' r h') : Call P f args h Q' :=
  ⟨hc.1, fun M w vs own hr => (hc.2 M w vs own hr).mono fun _ _ ⟨v, r, h', h1, h2, h3⟩ => ⟨v, r, h', h1, hq _ _ h2, h3⟩⟩

def fresh (h : Heap) (b : Nat) : Prop := match h with
  | [] => True
  | (c, _) :: r => (c ≠ b ∧ b ≠ c) ∧ fresh r b

theorem fresh_of {h : Heap} {b : Nat} (hb : ¬ h.has b) : fresh h b := by
  induction h with
  | nil => trivial
  | cons x r ih =>
    obtain ⟨c, k⟩ := x
    have : c ≠ b := fun e => hb ⟨k, by rw [e]; exact List.mem_cons_self⟩
    exact ⟨⟨this, Ne.symm this⟩, ih (fun ⟨k', hk⟩ => hb ⟨k', List.mem_cons_of_mem _ hk⟩)⟩

theorem not_has_of_fresh {h : Heap} {b : Nat} (hf : fresh h b) : ¬ h.has b := by
  induction h with
  | nil => rintro ⟨k, hk⟩; cases hk
  | cons x r ih =>
    obtain ⟨c, k⟩ := x
    rintro ⟨k', hk⟩
    rcases List.mem_cons.1 hk with hk | hk
    · cases hk; exact hf.1.1 rfl
    · exact ih hf.2 ⟨k', hk⟩

def setN (k : Blk) (off : Nat) (cs : List SV) : Blk := match cs with
  | [] => k
  | c :: r => setN (k.set off c) (off + 1) r

theorem len_setN : ∀ (cs : List SV) (k : Blk) (off : Nat), (setN k off cs).len = k.len
  | [], _, _ => rfl
  | c :: r, k, off => by rw [setN, len_setN r, Blk.len_set]

section
variable {P : Program} {M : Nat → Prop} {h : Heap} {w : World}

theorem map_upd (h : Heap) (b : Nat) (k : Blk) : (h.upd b k).map (·.1) = h.map (·.1) := by
  induction h with
  | nil => rfl
  | cons x r ih =>
    obtain ⟨c, k'⟩ := x
    simp only [Heap.upd]
    split
    · rfl
    · simp [ih]

theorem has_upd {b c : Nat} {k : Blk} : (h.upd b k).has c ↔ h.has c := by rw [has_map, has_map, map_upd]

theorem mem_upd {b c : Nat} {k k' : Blk} (hn : (h.map (·.1)).Nodup) (hm : (c, k') ∈ h.upd b k) : (c = b ∧ k' = k) ∨ (c ≠ b ∧ (c, k') ∈ h) := by
  induction h with
  | nil => cases hm
  | cons x r ih =>
    obtain ⟨d, k0⟩ := x
    simp only [Heap.upd] at hm
    rw [List.map_cons, List.nodup_cons] at hn
    split at hm
    · rename_i hd
      subst hd
      rcases List.mem_cons.1 hm with hm | hm
      · cases hm; exact .inl ⟨rfl, rfl⟩
      · exact .inr ⟨fun e => hn.1 (has_map.1 ⟨k', e ▸ hm⟩), List.mem_cons_of_mem _ hm⟩
    · rename_i hd
      rcases List.mem_cons.1 hm with hm | hm
      · cases hm; exact .inr ⟨hd, List.mem_cons_self⟩
      · rcases ih hn.2 hm with h' | h'
        · exact .inl h'
        · exact .inr ⟨h'.1, List.mem_cons_of_mem _ h'.2⟩

theorem hid_upd {b : Nat} {k : Blk} : hid M (h.upd b k) = hid M h := by
  funext c
  simp only [hid, has_upd]

theorem heap_set_same {b off : Nat} {c : Array Value} {e : TypeId} {fr : Nat × Nat} {v : Value} (hb : w.heap[b]? = some (.cells c e fr)) :
    (w.setCell ⟨b, off, none⟩ v).heap[b]? = some (.cells (c.setIfInBounds off v) e fr) := by
  simp [World.setCell, Array.getElem?_modify, hb]

theorem heap_set_other {b off b' : Nat} {v : Value} (hne : b' ≠ b) : (w.setCell ⟨b, off, none⟩ v).heap[b']? = w.heap[b']? := by
  simp only [World.setCell, Array.getElem?_modify]
  rw [if_neg (Ne.symm hne)]

theorem frm_set {b off : Nat} {v : Value} : Frm (fun c => c = b) w (w.setCell ⟨b, off, none⟩ v) where
  size := by simp [World.setCell]
  keep := fun c _ hc => heap_set_other hc
  sizes := fun c m ⟨cs, e, fr, hc, hs⟩ => by
    by_cases hcb : c = b
    · subst hcb; exact ⟨_, e, fr, heap_set_same hc, by simpa using hs⟩
    · exact ⟨cs, e, fr, by rw [heap_set_other hcb]; exact hc, hs⟩
  os := rfl
  tape := rfl
  output := rfl

theorem Owns.set (own : Owns M h w) {b off : Nat} {k : Blk} {v : Value} {s : SV} (hm : (b, k) ∈ h) (hv : Rep (envOf (hid M h) w) v s) :
    Owns M (h.upd b (k.set off s)) (w.setCell ⟨b, off, none⟩ v) := by
  have hle : (envOf (hid M h) w).le (envOf (hid M (h.upd b (k.set off s))) (w.setCell ⟨b, off, none⟩ v)) := by
    rw [hid_upd]
    exact env_le (frm_set) (fun c hc _ => .inr (hc ▸ ⟨k, hm⟩)) (fun _ _ x => x)
  refine ⟨by rw [map_upd]; exact own.nodup, fun c hc => own.notM c (has_upd.1 hc), fun c hc => by have := own.lt c hc; simpa [World.setCell] using this, fun c k' hk => ?_⟩
  rcases mem_upd own.nodup hk with ⟨rfl, rfl⟩ | ⟨hne, hk⟩
  · obtain ⟨cs, e, hb, hl, hr⟩ := own.ok c k hm
    refine ⟨_, e, heap_set_same hb, by rw [Blk.len_set]; simpa using hl, fun i hi => ?_⟩
    rw [Blk.len_set] at hi
    have h0 := hr i hi
    have hg : (k.set off s).get i = if off = i then s else k.get i := by
      rw [← Blk.get_cells _ _ (by rw [Blk.len_set]; exact hi), Blk.cells_set, ← Blk.get_cells k i hi]
      by_cases ho : off = i
      · subst ho
        have : off < k.cells.length := by rw [Blk.length_cells]; exact hi
        simp [List.getD_eq_getElem?_getD, this]
      · simp [List.getD_eq_getElem?_getD, List.getElem?_set_ne ho, ho]
    rw [hg]
    by_cases ho : off = i
    · subst ho
      have : off < cs.size := by omega
      simp only [if_true]
      refine Rep.mono hle ?_
      simpa [this] using hv
    · rw [if_neg ho]
      refine Rep.mono hle ?_
      simpa [Array.getElem?_setIfInBounds_ne ho] using h0
  · obtain ⟨cs, e, hb, hl, hr⟩ := own.ok c k' hk
    exact ⟨cs, e, by rw [heap_set_other hne]; exact hb, hl, fun i hi => (hr i hi).mono hle⟩

theorem upd_self {h : Heap} {b : Nat} {k : Blk} (hn : (h.map (·.1)).Nodup) (hm : (b, k) ∈ h) : h.upd b k = h := by
  induction h with
  | nil => cases hm
  | cons x r ih =>
    obtain ⟨c, k0⟩ := x
    rw [List.map_cons, List.nodup_cons] at hn
    simp only [Heap.upd]
    split
    · rename_i hc
      subst hc
      rcases List.mem_cons.1 hm with hm | hm
      · cases hm; rfl
      · exact absurd (has_map.1 ⟨k, hm⟩) hn.1
    · rename_i hc
      rcases List.mem_cons.1 hm with hm | hm
      · cases hm; exact absurd rfl hc
      · rw [ih hn.2 hm]

theorem mem_upd_self {h : Heap} {b : Nat} {k k' : Blk} (hm : (b, k) ∈ h) : (b, k') ∈ h.upd b k' := by
  induction h with
  | nil => cases hm
  | cons x r ih =>
    obtain ⟨c, k0⟩ := x
    simp only [Heap.upd]
    split
    · rename_i hc; subst hc; exact List.mem_cons_self
    · rename_i hc
      rcases List.mem_cons.1 hm with hm | hm
      · cases hm; exact absurd rfl hc
      · exact List.mem_cons_of_mem _ (ih hm)

theorem upd_upd (h : Heap) (b : Nat) (k k' : Blk) : (h.upd b k).upd b k' = h.upd b k' := by
  induction h with
  | nil => rfl
  | cons x r ih =>
    obtain ⟨c, k0⟩ := x
    simp only [Heap.upd]
    split
    · rename_i hc; simp [Heap.upd, hc]
    · rename_i hc; simp only [Heap.upd, if_neg hc, ih]

/-- Cells stored one by one into an owned block. -/
theorem storeCells_run {b : Nat} : ∀ (vs : List Value) (cs : List SV) (off i : Nat) (w : World) (h : Heap) (k : Blk), Owns M h w → (b, k) ∈ h → vs.length = cs.length → off + i + cs.length ≤ k.len →
    (∀ j, j < cs.length → Rep (envOf (hid M h) w) (vs.getD j undef) (cs.getD j .any)) → (∀ j, j < cs.length → (vs.getD j undef).oneCell' = true) →
    ∃ w', (storeCells ⟨b, off, none⟩ vs i).run P w = .ok () w' ∧ Owns M (h.upd b (setN k (off + i) cs)) w' ∧ Frm (fun c => c = b) w w'
  | [], [], off, i, w, h, k, own, hm, _, _, _, _ => by
    refine ⟨w, by simp [storeCells], ?_, Frm.refl _ _⟩
    have := upd_self own.nodup hm
    simp only [setN, this]
    exact own
  | [], _ :: _, _, _, _, _, _, _, _, hl, _, _, _ => by simp at hl
  | _ :: _, [], _, _, _, _, _, _, _, hl, _, _, _ => by simp at hl
  | v :: vs, s :: cs, off, i, w, h, k, own, hm, hl, hle, hr, ho => by
    have hv := hr 0 (by simp)
    have hv1 := ho 0 (by simp)
    simp only [List.getD_cons_zero] at hv hv1
    have hlen : off + i < k.len := by simp at hle; omega
    obtain ⟨u, hu, _⟩ := own.cell hm hlen
    obtain ⟨c, e, hb, _, _⟩ := own.ok b k hm
    have hfz : w.frozen? ⟨b, off + i, none⟩ = false := by simp [World.frozen?, hb]
    have hst : (store (Addr.add ⟨b, off, none⟩ i) v).run P w = .ok () (w.setCell ⟨b, off + i, none⟩ v) := by
      rw [Addr.add_lit, run_store _ _ _ _ _ hv1, hu]
      simp [hfz]
    have own' := own.set (off := off + i) hm hv
    have hle' : (envOf (hid M h) w).le (envOf (hid M (h.upd b (k.set (off + i) s))) (w.setCell ⟨b, off + i, none⟩ v)) := by
      rw [hid_upd]
      exact env_le (frm_set) (fun c hc _ => .inr (hc ▸ ⟨k, hm⟩)) (fun _ _ x => x)
    have hm' : (b, k.set (off + i) s) ∈ h.upd b (k.set (off + i) s) := mem_upd_self hm
    obtain ⟨w', h1, h2, h3⟩ := storeCells_run vs cs off (i + 1) _ _ _ own' hm' (by simpa using hl) (by rw [Blk.len_set]; simp at hle; omega)
      (fun j hj => by have := hr (j + 1) (by simpa using hj); simp only [List.getD_cons_succ] at this; exact this.mono hle') (fun j hj => by have := ho (j + 1) (by simpa using hj); simpa using this)
    refine ⟨w', ?_, ?_, (frm_set).trans h3 (fun _ _ x => x)⟩
    · simp only [storeCells, Sem.run_bind, hst, Result.andThen_ok]
      exact h1
    · have hupd : (h.upd b (k.set (off + i) s)).upd b (setN (k.set (off + i) s) (off + (i + 1)) cs) = h.upd b (setN k (off + i) (s :: cs)) := by
        rw [setN, Nat.add_assoc, upd_upd]
      rw [← hupd]
      exact h2

end
end Go.Ab
/- Append. -/
namespace Go.Ab
open Go.RowKit

def Heap.ren (h : Heap) (b b' : Nat) (k : Blk) : Heap := match h with
  | [] => []
  | (c, k') :: r => if c = b then (b', k) :: r else (c, k') :: Heap.ren r b b' k

def appB (k : Blk) (cs : List SV) : Blk :=
  match k, cs with
  | .ints k l, [.sc (.int k' n)] => if k' = k then .ints k (l ++ [n]) else .svs ((Blk.ints k l).cells ++ [.sc (.int k' n)])
  | .bools l, [.sc (.bool b)] => .bools (l ++ [b])
  | k, cs => .svs (k.cells ++ cs)

def newB (cs : List SV) : Blk :=
  match cs with
  | [.sc (.int k n)] => .ints k [n]
  | [.sc (.bool b)] => .bools [b]
  | cs => .svs cs

def flCells (f : Nat → List SV) (n : Nat) : List SV := (List.range n).flatMap f

/-- The elements of what is appended: how many, and their cells. -/
def srcCells (x : SV) (h : Heap) : Option (Nat × List SV) :=
  match x with
  | .fl n _ f => some (n, flCells f n)
  | .os b off n sz => match h.find b with
    | some k => some (n, getN k off (n * sz))
    | none => none
  | .sc (.slice none 0 0) => some (0, [])
  | .sc (.string s) => some (s.size, s.data.toList.map fun b => .sc (.int .u8 b.toNat))
  | _ => none

def srcOk (size : Nat) (x : SV) (h : Heap) : Prop :=
  match x with
  | .fl _ sz _ => sz = size
  | .os b off n sz => match h.find b with
    | some k => sz = size ∧ off + n * sz ≤ k.len
    | none => False
  | .sc (.string _) => size = 1
  | _ => True

def notInt (P : Program) (t : TypeId) : Bool := match P.underlying t with
  | some (.int _) => false
  | some _ => true
  | none => false

theorem appB_cells (k : Blk) (cs : List SV) : (appB k cs).cells = k.cells ++ cs := by
  unfold appB
  split
  · rename_i k' l k'' n
    split
    · rename_i hk; subst hk; simp [Blk.cells]
    · rfl
  · simp [Blk.cells]
  · rfl

theorem newB_cells (cs : List SV) : (newB cs).cells = cs := by
  unfold newB
  split <;> simp [Blk.cells]

section
variable {P : Program} {M : Nat → Prop} {h : Heap} {w : World}

theorem size_unique {b m m' : Nat} (h1 : HasSize w b m) (h2 : HasSize w b m') : m = m' := by
  obtain ⟨c, e, fr, hc, rfl⟩ := h1
  obtain ⟨c', e', fr', hc', rfl⟩ := h2
  rw [hc] at hc'
  cases hc'
  rfl

theorem upd_mem_other {h : Heap} {b c : Nat} {k k' : Blk} (hne : c ≠ b) (hm : (c, k) ∈ h) : (c, k) ∈ h.upd b k' := by
  induction h with
  | nil => cases hm
  | cons x r ih =>
    obtain ⟨d, k0⟩ := x
    simp only [Heap.upd]
    split
    · rename_i hd
      rcases List.mem_cons.1 hm with hm | hm
      · cases hm; exact absurd hd hne
      · exact List.mem_cons_of_mem _ hm
    · rcases List.mem_cons.1 hm with hm | hm
      · cases hm; exact List.mem_cons_self
      · exact List.mem_cons_of_mem _ (ih hm)

/-- Something else, also true, is said of an owned block. -/
theorem Owns.recell (own : Owns M h w) {b : Nat} {k k' : Blk} {c : Array Value} {e : TypeId} (hm : (b, k) ∈ h) (hb : w.heap[b]? = some (.cells c e (0, 0))) (hl : k'.len ≤ c.size)
    (hr : ∀ i, i < k'.len → Rep (envOf (hid M h) w) (c.getD i undef) (k'.get i)) : Owns M (h.upd b k') w := by
  refine ⟨by rw [map_upd]; exact own.nodup, fun c hc => own.notM c (has_upd.1 hc), own.lt, fun d k0 hk => ?_⟩
  rw [hid_upd]
  rcases mem_upd own.nodup hk with ⟨rfl, rfl⟩ | ⟨hne, hk⟩
  · exact ⟨c, e, hb, hl, hr⟩
  · exact own.ok d k0 hk

/-- Fewer blocks are owned: what is given up may be seen. -/
theorem Owns.sub (own : Owns M h w) {h' : Heap} (hn : (h'.map (·.1)).Nodup) (hs : ∀ x ∈ h', x ∈ h) : Owns M h' w := by
  have hh : ∀ b, h'.has b → h.has b := fun b ⟨k, hk⟩ => ⟨k, hs _ hk⟩
  refine ⟨hn, fun b hb => own.notM b (hh b hb), own.lt, fun b k hk => ?_⟩
  obtain ⟨c, e, hb, hl, hr⟩ := own.ok b k (hs _ hk)
  exact ⟨c, e, hb, hl, fun i hi => (hr i hi).mono (env_le (Frm.refl (fun _ => False) w) (fun _ x _ => x.elim) (fun b _ x => x.imp id (hh b)))⟩

theorem Owns.cells (own : Owns M h w) {b : Nat} {k k' : Blk} (hm : (b, k) ∈ h) (he : k'.cells = k.cells) : Owns M (h.upd b k') w := by
  obtain ⟨c, e, hb, hl, hr⟩ := own.ok b k hm
  have hlen : k'.len = k.len := by rw [← Blk.length_cells, he, Blk.length_cells]
  refine own.recell hm hb (by omega) (fun i hi => ?_)
  rw [← Blk.get_cells k' i hi, he, Blk.get_cells k i (by omega)]
  exact hr i (by omega)

theorem ren_self (h : Heap) (b : Nat) (k : Blk) : h.ren b b k = h.upd b k := by
  induction h with
  | nil => rfl
  | cons x r ih => obtain ⟨c, k0⟩ := x; simp only [Heap.ren, Heap.upd, ih]; split <;> simp_all

theorem mem_ren {h : Heap} {b b' : Nat} {k : Blk} {x : Nat × Blk} (hx : x ∈ h.ren b b' k) : x = (b', k) ∨ x ∈ h.del b := by
  induction h with
  | nil => cases hx
  | cons y r ih =>
    obtain ⟨c, k0⟩ := y
    simp only [Heap.ren, Heap.del] at hx ⊢
    split at hx
    · rename_i hc
      rw [if_pos hc]
      rcases List.mem_cons.1 hx with hx | hx
      · exact .inl hx
      · exact .inr hx
    · rename_i hc
      rw [if_neg hc]
      rcases List.mem_cons.1 hx with hx | hx
      · exact .inr (hx ▸ List.mem_cons_self)
      · exact (ih hx).imp id (List.mem_cons_of_mem _)

theorem mem_del {h : Heap} {b : Nat} {x : Nat × Blk} (hx : x ∈ h.del b) : x ∈ h := by
  induction h with
  | nil => cases hx
  | cons y r ih =>
    obtain ⟨c, k0⟩ := y
    simp only [Heap.del] at hx
    split at hx
    · exact List.mem_cons_of_mem _ hx
    · rcases List.mem_cons.1 hx with hx | hx
      · exact hx ▸ List.mem_cons_self
      · exact List.mem_cons_of_mem _ (ih hx)

theorem nodup_ren {h : Heap} {b b' : Nat} {k : Blk} (hn : (h.map (·.1)).Nodup) (hb : b' ∉ h.map (·.1)) : ((h.ren b b' k).map (·.1)).Nodup := by
  induction h with
  | nil => simp [Heap.ren]
  | cons y r ih =>
    obtain ⟨c, k0⟩ := y
    rw [List.map_cons, List.nodup_cons] at hn
    simp only [List.map_cons, List.mem_cons, not_or] at hb
    simp only [Heap.ren]
    split
    · rw [List.map_cons, List.nodup_cons]; exact ⟨hb.2, hn.2⟩
    · rw [List.map_cons, List.nodup_cons]
      refine ⟨fun hm => ?_, ih hn.2 hb.2⟩
      rw [List.mem_map] at hm
      obtain ⟨x, hx, hxc⟩ := hm
      rcases mem_ren hx with rfl | hx
      · exact hb.1 hxc
      · exact hn.1 (hxc ▸ List.mem_map.2 ⟨x, mem_del hx, rfl⟩)

/-- The block that is told apart is not met among the others. -/
theorem del_not {h : Heap} {b : Nat} (hn : (h.map (·.1)).Nodup) : ¬ (h.del b).has b := by
  induction h with
  | nil => rintro ⟨k, hk⟩; cases hk
  | cons y r ih =>
    obtain ⟨c, k0⟩ := y
    rw [List.map_cons, List.nodup_cons] at hn
    simp only [Heap.del]
    split
    · rename_i hc; subst hc; exact fun hh => hn.1 (has_map.1 hh)
    · rename_i hc
      rintro ⟨k, hk⟩
      rcases List.mem_cons.1 hk with hk | hk
      · cases hk; exact hc rfl
      · exact ih hn.2 ⟨k, hk⟩

theorem all_mem {α : Type} {p : α → Bool} {l : List α} (h : l.all p = true) {i : Nat} {d : α} (hi : i < l.length) : p (l.getD i d) = true := by
  rw [getD_list _ _ _ hi]
  exact List.all_eq_true.1 h _ (List.getElem_mem hi)

theorem length_flCells {f : Nat → List SV} {sz : Nat} : ∀ n, (∀ i, i < n → (f i).length = sz) → (flCells f n).length = n * sz
  | 0, _ => by simp [flCells]
  | n + 1, h => by
    have := length_flCells n (fun i hi => h i (by omega))
    unfold flCells at *
    rw [List.range_succ, List.flatMap_append, List.length_append, this]
    simp [h n (by omega), Nat.add_mul]

theorem getD_flCells {f : Nat → List SV} {sz : Nat} : ∀ n, (∀ i, i < n → (f i).length = sz) → ∀ i j, i < n → j < sz → (flCells f n).getD (i * sz + j) .any = (f i).getD j .any
  | 0, _, i, _, hi, _ => absurd hi (by omega)
  | n + 1, h, i, j, hi, hj => by
    have hl := length_flCells n (fun i hi => h i (by omega))
    have e : flCells f (n + 1) = flCells f n ++ f n := by unfold flCells; rw [List.range_succ, List.flatMap_append]; simp
    rw [e, List.getD_eq_getElem?_getD]
    by_cases hin : i < n
    · have := index_lt (s := sz) hin
      rw [List.getElem?_append_left (by omega), ← List.getD_eq_getElem?_getD]
      exact getD_flCells n (fun i hi => h i (by omega)) i j hin hj
    · obtain rfl : i = n := by omega
      rw [List.getElem?_append_right (by omega), hl, ← List.getD_eq_getElem?_getD, Nat.add_sub_cancel_left]

/-- What is appended, as the model reads it. -/
theorem src_sound {u : Value} {x : SV} {n size : Nat} {cs : List SV} (own : Owns M h w) (hx : Rep (envOf (hid M h) w) u x) (hc : srcCells x h = some (n, cs)) (ho : srcOk size x h) :
    (Builtin.lenOf u).run P w = .ok n w ∧ ∃ c : Array Value, (Builtin.firstCells size n u).run P w = .ok c w ∧ c.size = cs.length ∧ cs.length = n * size ∧ ∀ i, i < cs.length → Rep (envOf (hid M h) w) (c.getD i undef) (cs.getD i .any) := by
  unfold srcCells at hc
  split at hc
  · rename_i n' sz f
    cases hc
    subst ho
    cases hx with
    | fl0 a cap _ _ =>
      refine ⟨by simp [Builtin.lenOf], #[], ?_, by simp [flCells], by simp [flCells], fun i hi => absurd hi (by simp [flCells])⟩
      cases a with
      | none => simp [Builtin.firstCells]
      | some a => simp [Builtin.firstCells, loadCells, loadCellsFrom]
    | fl b off _ cap _ _ val hcap hl hs hr =>
      have hlen := length_flCells n hl
      refine ⟨by simp [Builtin.lenOf], ((List.range (n * sz)).map fun i => val (i / sz) (i % sz)).toArray, ?_, by simp [hlen], hlen, fun i hi => ?_⟩
      · simp only [Builtin.firstCells, loadCells]
        have := run_loadCellsFrom (P := P) (w := w) (a := ⟨b, off, none⟩) (fun i => val (i / sz) (i % sz)) (n * sz) 0 #[] (fun j hj => by
          have hsz : 0 < sz := Nat.pos_of_ne_zero (fun e => by subst e; simp at hj)
          have h1 : j / sz < n := Nat.div_lt_of_lt_mul (by rw [Nat.mul_comm]; exact hj)
          have h2 := (hs (j / sz) h1 (j % sz) (Nat.mod_lt _ hsz)).2
          rw [Nat.zero_add, Addr.add_lit]
          rw [Nat.add_assoc, Nat.mul_comm, Nat.div_add_mod] at h2
          exact h2)
        simpa using this
      · rw [hlen] at hi
        have hsz : 0 < sz := Nat.pos_of_ne_zero (fun e => by subst e; simp at hi)
        have h1 : i / sz < n := Nat.div_lt_of_lt_mul (by rw [Nat.mul_comm]; exact hi)
        have h2 := hr (i / sz) h1 (i % sz) (Nat.mod_lt _ hsz)
        have h3 := getD_flCells n hl (i / sz) (i % sz) h1 (Nat.mod_lt _ hsz)
        rw [Nat.mul_comm, Nat.div_add_mod] at h3
        rw [h3]
        simpa [hi] using h2
  · rename_i b off n' sz
    split at hc
    · rename_i k hk
      cases hc
      simp only [srcOk, hk] at ho
      obtain ⟨rfl, hle⟩ := ho
      cases hx with
      | os _ _ _ cap _ m hcap hm hb =>
        have hmem := Heap.find_mem hk
        obtain ⟨c, e, hbk, hl, hr⟩ := own.ok b k hmem
        refine ⟨by simp [Builtin.lenOf], ((List.range (n * sz)).map fun i => c.getD (off + i) undef).toArray, ?_, by simp [length_getN], length_getN _ _ _, fun i hi => ?_⟩
        · simp only [Builtin.firstCells, loadCells]
          have := run_loadCellsFrom (P := P) (w := w) (a := ⟨b, off, none⟩) (fun i => c.getD (off + i) undef) (n * sz) 0 #[] (fun j hj => by
            have hlt : off + j < c.size := by omega
            rw [Nat.zero_add, Addr.add_lit]
            simp [World.cell?, hbk, hlt])
          simpa using this
        · rw [length_getN] at hi
          rw [getD_getN _ _ _ _ hi]
          have := hr (off + i) (by omega)
          simpa [hi] using this
    · cases hc
  · cases hc
    cases hx
    exact ⟨by simp [Builtin.lenOf], #[], by simp [Builtin.firstCells], rfl, by simp, fun i hi => absurd hi (by simp)⟩
  · rename_i s
    cases hc
    cases hx
    unfold srcOk at ho
    subst ho
    refine ⟨by simp [Builtin.lenOf], s.data.map fun b => .int .u8 b.toNat, ?_, by rw [Array.size_map, List.length_map, Array.length_toList], by rw [List.length_map, Array.length_toList, Nat.mul_one]; rfl, fun i hi => ?_⟩
    · simp only [Builtin.firstCells, Sem.run_pure]
      congr 2
      have : s.extract 0 s.size = s := by simp
      rw [this]
    · have hi' : i < s.data.size := by simpa using hi
      simp only [List.getD_eq_getElem?_getD, List.getElem?_map, Array.getElem?_toList, Array.getElem?_eq_getElem hi', Option.map_some, Option.getD_some]
      rw [getD_toList]
      simp only [Array.toList_map, List.getD_eq_getElem?_getD, List.getElem?_map, Array.getElem?_toList, Array.getElem?_eq_getElem hi', Option.map_some, Option.getD_some]
      exact .sc _
  · cases hc

end
end Go.Ab
/- Append, run. -/
namespace Go.Ab
open Go.RowKit

theorem find_of_mem {h : Heap} {b : Nat} {k : Blk} (hn : (h.map (·.1)).Nodup) (hm : (b, k) ∈ h) : h.find b = some k := by
  induction h with
  | nil => cases hm
  | cons x r ih =>
    obtain ⟨c, k0⟩ := x
    rw [List.map_cons, List.nodup_cons] at hn
    simp only [Heap.find]
    rcases List.mem_cons.1 hm with hm | hm
    · cases hm; rw [if_pos rfl]
    · have : c ≠ b := fun e => hn.1 (has_map.1 ⟨k, e ▸ hm⟩)
      rw [if_neg this]
      exact ih hn.2 hm

theorem Blk.len_svs (cs : List SV) : (Blk.svs cs).len = cs.length := rfl

theorem setN_cells : ∀ (cs : List SV) (k : Blk) (off : Nat), (setN k off cs).cells = setAll k.cells off cs
  | [], _, _ => rfl
  | c :: r, k, off => by rw [setN, setN_cells r, Blk.cells_set, setAll]

theorem setAll_fill : ∀ (cs l r : List SV), r.length = cs.length → setAll (l ++ r) l.length cs = l ++ cs
  | [], l, r, h => by
    have : r = [] := by simpa using h
    subst this; rfl
  | c :: cs, l, [], h => by simp at h
  | c :: cs, l, x :: r, h => by
    rw [setAll]
    have e : (l ++ x :: r).set l.length c = (l ++ [c]) ++ r := by simp
    rw [e, show l.length + 1 = (l ++ [c]).length by simp, setAll_fill cs (l ++ [c]) r (by simpa using h)]
    simp

theorem setN_fill (l cs : List SV) : (setN (Blk.svs (l ++ List.replicate cs.length .any)) l.length cs).cells = l ++ cs := by
  rw [setN_cells]
  exact setAll_fill cs l _ (by simp)

theorem growBy_le (n : Nat) : ∀ r c, c ≤ n + (n + 768) / 4 → Builtin.growBy n r c ≤ n + (n + 768) / 4
  | 0, c, h => h
  | r + 1, c, h => by
    unfold Builtin.growBy
    split
    · exact h
    · exact growBy_le n r _ (by omega)

theorem nextcap_le {need old : Nat} (h : old < need) : Builtin.nextslicecap need old ≤ 2 * need := by
  unfold Builtin.nextslicecap
  split
  · omega
  · split
    · omega
    · have := growBy_le need 4 old (by omega)
      omega

section
variable {P : Program} {M : Nat → Prop} {h : Heap} {w : World}

/-- One draw later. -/
def drw (w : World) : World := { w with drawn := w.drawn + 1 }

theorem frm_drw (D : Nat → Prop) (w : World) : Frm D w (drw w) := ⟨Nat.le_refl _, fun _ _ _ => rfl, fun _ _ h => h, rfl, rfl, rfl⟩
theorem env_drw (X : Nat → Prop) (w : World) : (envOf X w).le (envOf X (drw w)) := ⟨fun _ _ h => h, fun _ _ h => h⟩
theorem Owns.drw (own : Owns M h w) : Owns M h (drw w) :=
  ⟨own.nodup, own.notM, own.lt, fun b k hk => let ⟨c, e, h1, h2, h3⟩ := own.ok b k hk; ⟨c, e, h1, h2, fun i hi => (h3 i hi).mono (env_drw _ _)⟩⟩

theorem heap_drw (w : World) : (drw w).heap = w.heap := rfl

theorem notInt_run {t : TypeId} (hn : notInt P t = true) : ∃ d, P.underlying t = some d ∧ (match d with | .int _ => true | _ => false) = false := by
  unfold notInt at hn
  split at hn
  · cases hn
  · rename_i d hd _
    refine ⟨d, by assumption, ?_⟩
    cases d <;> simp_all
  · cases hn

theorem run_choose_cap (need old e : Nat) : (choose (.appendCap need old e)).run P w = .ok (need + (w.tape w.drawn (.appendCap need old e)) % (2 ^ 63 - need)) (drw w) := by
  simp [Question.forced, Question.cut, drw]

theorem getD_append3 {a b c : Array Value} {i : Nat} : (a ++ b ++ c).getD i undef = if i < a.size then a.getD i undef else if i < a.size + b.size then b.getD (i - a.size) undef else c.getD (i - a.size - b.size) undef := by
  simp only [Array.getD_eq_getD_getElem?, Array.getElem?_append, Array.size_append]
  split
  · rename_i h
    split
    · rfl
    · rfl
  · rename_i h
    rw [if_neg (by omega)]
    congr 2
    omega

/-- A new block for what was there and what is appended. -/
theorem grow_owns (own : Owns M h w) {oc nc rest : Array Value} {e : TypeId} {os cs : List SV} {k' : Blk} (hk : k'.cells = os ++ cs) (h1 : oc.size = os.length) (h2 : nc.size = cs.length)
    (r1 : ∀ i, i < os.length → Rep (envOf (hid M h) w) (oc.getD i undef) (os.getD i .any)) (r2 : ∀ i, i < cs.length → Rep (envOf (hid M h) w) (nc.getD i undef) (cs.getD i .any)) :
    Owns M (((drw w).heap.size, k') :: h) (alc (drw w) (oc ++ nc ++ rest) e) := by
  have hlen : k'.len = os.length + cs.length := by rw [← Blk.length_cells, hk, List.length_append]
  refine Owns.alc own.drw (by simp; omega) (fun i hi => ?_)
  rw [← Blk.get_cells _ _ hi, hk, getD_append3]
  by_cases hio : i < os.length
  · rw [if_pos (by omega), List.getD_eq_getElem?_getD, List.getElem?_append_left hio, ← List.getD_eq_getElem?_getD]
    exact r1 i hio
  · rw [if_neg (by omega), if_pos (by omega), List.getD_eq_getElem?_getD, List.getElem?_append_right (by omega), ← List.getD_eq_getElem?_getD, h1]
    exact r2 _ (by omega)

theorem append_in {st xt ty : TypeId} {u' : Value} {e n sLen sCap : Nat} {a : Addr} {i : TypeInfo} {c : Array Value} {w' : World} (hu : P.underlying st = some (.slice e)) (hin : P.info? e = some i) (hN : notInt P xt = true)
    (hlen : (Builtin.lenOf u').run P w = .ok n w) (hle : sLen + n ≤ sCap) (hc : (Builtin.firstCells i.size n u').run P w = .ok c w) (hst : (storeCells (a.add (sLen * i.size)) c.toList).run P w = .ok () w') :
    (Builtin.append_ #[st, xt] ty #[.slice (some a) sLen sCap, u']).run P w = .ok (.slice (some a) (sLen + n) sCap) w' := by
  obtain ⟨d, hd, hdi⟩ := notInt_run hN
  unfold Builtin.append_
  cases d <;> first | (simp at hdi; done) | skip
  all_goals
    simp only [Sem.run_bind, run_underlying hu, Result.andThen_ok, run_sizeOf_info hin, run_underlying hd, Sem.run_pure, hlen, Sem.run_ite, List.getElem?_toArray, List.getElem?_cons_zero, List.getElem?_cons_succ,
      Bool.false_eq_true, if_false, if_pos hle, Bool.not_false, if_true, hc, hst]

theorem append_grow {st xt ty : TypeId} {u' : Value} {e n sLen sCap : Nat} {base : Option Addr} {i : TypeInfo} {zv : Value} {oc nc : Array Value} (hu : P.underlying st = some (.slice e)) (hin : P.info? e = some i) (hN : notInt P xt = true)
    (hlen : (Builtin.lenOf u').run P w = .ok n w) (hle : ¬ sLen + n ≤ sCap) (hzv : i.zero = some zv)
    (hmax : ¬ (((sLen + n : Nat) : Int) > IntKind.i64.max ∧ (False ∨ i.bytes = 0))) (hcap : ¬ Builtin.nextslicecap (sLen + n) sCap * i.bytes > 2 ^ 48)
    (ho : (Builtin.firstCells i.size sLen (.slice base sLen sCap)).run P (drw w) = .ok oc (drw w)) (hn : (Builtin.firstCells i.size n u').run P (drw w) = .ok nc (drw w)) :
    ∃ newCap, sLen + n ≤ newCap ∧ (Builtin.append_ #[st, xt] ty #[.slice base sLen sCap, u']).run P w =
      .ok (.slice (some ⟨w.heap.size, 0, none⟩) (sLen + n) newCap) (alc (drw w) (oc ++ nc ++ Builtin.zeroCells zv.cells (newCap - (sLen + n))) e) := by
  obtain ⟨d, hd, hdi⟩ := notInt_run hN
  refine ⟨sLen + n + (w.tape w.drawn (.appendCap (sLen + n) sCap e)) % (2 ^ 63 - (sLen + n)), by omega, ?_⟩
  have hti : ∀ w, (typeInfo e).run P w = .ok i w := fun w => run_typeInfo hin w
  have hz := fun w => run_zeroValue (P := P) (w := w) hin hzv
  unfold Builtin.append_
  cases d <;> first | (simp at hdi; done) | skip
  all_goals
    simp only [Sem.run_bind, run_underlying hu, Result.andThen_ok, run_sizeOf_info hin, run_underlying hd, Sem.run_pure, hlen, Sem.run_ite, List.getElem?_toArray, List.getElem?_cons_zero, List.getElem?_cons_succ,
      Bool.false_eq_true, if_false, if_neg hle, Bool.not_false, if_true, hti, if_neg hmax, if_neg hcap, run_choose_cap, run_askRoom, ho, hn, hz, newRow, run_newObj]
    rfl

/-- The hypotheses of an append, whatever it is appended to. -/
structure AppHyp (P : Program) (M : Nat → Prop) (h : Heap) (w : World) (st xt : TypeId) (u' : Value) (x : SV) (e size bytes n : Nat) (z : List Value) (cs : List SV) : Prop where
  hx : Rep (envOf (hid M h) w) u' x
  hL : slk P st = some (e, size, bytes)
  hZ : zk P e = some z
  hN : notInt P xt = true
  hc : srcCells x h = some (n, cs)
  ho : srcOk size x h
  hz : z.length = size
  h0 : 0 < size

theorem append_nil {st xt ty : TypeId} {u' : Value} {x : SV} {e size bytes n : Nat} {z : List Value} {cs : List SV} (own : Owns M h w) (A : AppHyp P M h w st xt u' x e size bytes n z cs)
    (hb : n * bytes ≤ 140737488355328) (hn : n ≤ 140737488355328) (hpos : 0 < n) :
    ∃ r c, (Builtin.append_ #[st, xt] ty #[.slice none 0 0, u']).run P w = .ok r (alc (drw w) c e) ∧ Owns M ((w.heap.size, newB cs) :: h) (alc (drw w) c e) ∧
      Rep (envOf (hid M ((w.heap.size, newB cs) :: h)) (alc (drw w) c e)) r (.os w.heap.size 0 n size) := by
  obtain ⟨hx, hL, hZ, hN, hc, ho, hz, h0⟩ := A
  obtain ⟨i, hu, hin, rfl, rfl⟩ := slk_spec hL
  obtain ⟨i', zv, hi', hzv, rfl⟩ := zk_spec hZ
  rw [hin] at hi'; cases hi'
  have hlen := (src_sound (P := P) own hx hc ho).1
  obtain ⟨nc, hcr, hcs, hcn, hcrep⟩ := (src_sound (P := P) (w := drw w) own.drw (hx.mono (env_drw _ _)) hc ho).2
  have hsz : zv.cells.size = i.size := by simpa using hz
  obtain ⟨newCap, hge, hrun⟩ := append_grow (ty := ty) (base := none) (sLen := 0) (sCap := 0) (oc := #[]) (nc := nc) hu hin hN hlen (by omega) hzv (by rw [IntKind.max_i64]; omega)
    (by
      have h1 := nextcap_le (need := 0 + n) (old := 0) (by omega)
      have h2 := Nat.mul_le_mul_right i.bytes h1
      rw [Nat.mul_assoc, Nat.zero_add] at h2
      rw [Nat.zero_add]
      omega)
    (by simp [Builtin.firstCells]) hcr
  rw [Nat.zero_add] at hge hrun
  have own' := grow_owns (oc := #[]) (nc := nc) (rest := Builtin.zeroCells zv.cells (newCap - n)) (e := e) (os := []) (cs := cs) (k' := newB cs) own (by rw [newB_cells]; rfl) rfl hcs
    (fun i hi => absurd hi (by simp)) (fun i hi => (hcrep i hi).mono ⟨fun _ _ h => h, fun _ _ h => h⟩)
  refine ⟨_, _, hrun, own', .os _ 0 _ _ _ _ hge ⟨_, _, _, heap_alc_new, rfl⟩ ?_⟩
  simp only [Builtin.zeroCells, Array.size_append, Array.size_map, Array.size_range, hcs, hcn, hsz]
  simp
  rw [← Nat.add_mul]
  exact Nat.le_of_eq (by congr 1; omega)

theorem append_os {st xt ty : TypeId} {u u' : Value} {x : SV} {e size bytes n b len : Nat} {z : List Value} {cs : List SV} {k : Blk} (own : Owns M h w) (A : AppHyp P M h w st xt u' x e size bytes n z cs)
    (hs : Rep (envOf (hid M h) w) u (.os b 0 len size)) (hk : (b, k) ∈ h) (hlk : len * size = k.len) (hone : cs.all single = true)
    (hb : (len + n) * bytes ≤ 140737488355328) (hn : len + n ≤ 140737488355328) :
    ∃ r w' b', (Builtin.append_ #[st, xt] ty #[u, u']).run P w = .ok r w' ∧ fresh (h.del b) b' ∧ Owns M (h.ren b b' (appB k cs)) w' ∧ Frm (fun c => c = b) w w' ∧
      Rep (envOf (hid M (h.ren b b' (appB k cs))) w') r (.os b' 0 (len + n) size) ∧ (b' = b ∨ w.heap.size ≤ b') := by
  obtain ⟨hx, hL, hZ, hN, hc, ho, hz, h0⟩ := A
  obtain ⟨i, hu, hin, rfl, rfl⟩ := slk_spec hL
  obtain ⟨i', zv, hi', hzv, rfl⟩ := zk_spec hZ
  rw [hin] at hi'; cases hi'
  have hsz : zv.cells.size = i.size := by simpa using hz
  obtain ⟨hlen, nc, hcr, hcs, hcn, hcrep⟩ := src_sound (P := P) own hx hc ho
  obtain ⟨cb, eb, hheap, hkl, hkr⟩ := own.ok b k hk
  generalize hsv : SV.os b 0 len i.size = sv at hs
  cases hs <;> first | (cases hsv; done) | skip
  rename_i b0 off0 len0 cap sz0 m hcap hm hbm
  cases hsv
  have hmc : m = cb.size := size_unique hm ⟨cb, eb, _, hheap, rfl⟩
  by_cases hle : len + n ≤ cap
  · have hroom : (len + n) * i.size ≤ cap * i.size := Nat.mul_le_mul_right _ hle
    rw [Nat.add_mul] at hroom
    have hext : Owns M (h.upd b (.svs (k.cells ++ List.replicate (n * i.size) .any))) w := own.recell hk hheap (by simp only [Blk.len_svs, List.length_append, List.length_replicate, Blk.length_cells]; omega) (fun j hj => by
      simp only [Blk.len_svs, List.length_append, List.length_replicate, Blk.length_cells] at hj
      simp only [Blk.get]
      by_cases hjk : j < k.len
      · rw [List.getD_eq_getElem?_getD, List.getElem?_append_left (by rw [Blk.length_cells]; exact hjk), ← List.getD_eq_getElem?_getD, Blk.get_cells _ _ hjk]
        exact hkr j hjk
      · rw [List.getD_eq_getElem?_getD, List.getElem?_append_right (by rw [Blk.length_cells]; omega), ← List.getD_eq_getElem?_getD]
        rw [show (List.replicate (n * i.size) SV.any).getD (j - k.cells.length) .any = .any by simp [List.getD_eq_getElem?_getD, List.getElem?_replicate]; split <;> rfl]
        exact .any _)
    have hhid : hid M (h.upd b (.svs (k.cells ++ List.replicate (n * i.size) .any))) = hid M h := hid_upd
    obtain ⟨w', hrun, own', frm⟩ := storeCells_run (P := P) nc.toList cs (len * i.size) 0 w _ _ hext (mem_upd_self hk) (by simpa using hcs)
      (by simp only [Blk.len_svs, List.length_append, List.length_replicate, Blk.length_cells]; omega) (fun j hj => by rw [hhid, ← getD_toList]; exact hcrep j hj)
      (fun j hj => by rw [← getD_toList]; exact (single_spec (hcrep j hj) (all_mem hone hj)).1)
    rw [upd_upd] at own'
    have hcells : (setN (Blk.svs (k.cells ++ List.replicate (n * i.size) .any)) (len * i.size + 0) cs).cells = (appB k cs).cells := by
      rw [appB_cells, Nat.add_zero, hlk, ← Blk.length_cells k, ← hcn]
      exact setN_fill k.cells cs
    have own2 := own'.cells (k' := appB k cs) (mem_upd_self hk) hcells.symm
    rw [upd_upd] at own2
    refine ⟨.slice (some ⟨b, 0, none⟩) (len + n) cap, w', b, ?_, fresh_of (del_not own.nodup), by rw [ren_self]; exact own2, frm, ?_, .inl rfl⟩
    · refine append_in hu hin hN hlen hle hcr ?_
      rw [Addr.add_lit, Nat.zero_add]
      exact hrun
    · exact .os _ 0 _ _ _ m hle (frm.sizes _ _ hm) hbm
  · obtain ⟨nc, hcr, hcs, hcn, hcrep⟩ := (src_sound (P := P) (w := drw w) own.drw (hx.mono (env_drw _ _)) hc ho).2
    have hsl : Rep (envOf (hid M h) (drw w)) (.slice (some ⟨b, 0, none⟩) len cap) (.os b 0 len i.size) := .os _ 0 _ _ _ m hcap hm hbm
    have hfind : h.find b = some k := find_of_mem own.nodup hk
    obtain ⟨oc, hor, hos, hon, horep⟩ := (src_sound (P := P) (w := drw w) own.drw hsl (n := len) (size := i.size) (cs := getN k 0 (len * i.size)) (by simp [srcCells, hfind]) (by simp [srcOk, hfind]; omega)).2
    obtain ⟨newCap, hge, hrun⟩ := append_grow (ty := ty) (base := some ⟨b, 0, none⟩) (sLen := len) (sCap := cap) (oc := oc) (nc := nc) hu hin hN hlen hle hzv (by rw [IntKind.max_i64]; omega)
      (by
        have h1 := nextcap_le (need := len + n) (old := cap) (by omega)
        have h2 := Nat.mul_le_mul_right i.bytes h1
        rw [Nat.mul_assoc] at h2
        omega)
      hor hcr
    have hkc : getN k 0 (len * i.size) = k.cells := by
      rw [hlk]
      refine List.ext_getElem? (fun j => ?_)
      by_cases hj : j < k.len
      · have h1 := getD_getN k k.len 0 j hj
        have h2 := Blk.get_cells k j hj
        rw [getD_list _ _ _ (by rw [length_getN]; exact hj)] at h1
        rw [getD_list _ _ _ (by rw [Blk.length_cells]; exact hj)] at h2
        rw [List.getElem?_eq_getElem (by rw [length_getN]; exact hj), List.getElem?_eq_getElem (by rw [Blk.length_cells]; exact hj), h1, h2, Nat.zero_add]
      · rw [List.getElem?_eq_none (by rw [length_getN]; omega), List.getElem?_eq_none (by rw [Blk.length_cells]; omega)]
    rw [hkc] at hos horep
    have own' := grow_owns (oc := oc) (nc := nc) (rest := Builtin.zeroCells zv.cells (newCap - (len + n))) (e := e) (os := k.cells) (cs := cs) (k' := appB k cs) own (appB_cells k cs) hos hcs
      (fun i hi => (horep i hi).mono ⟨fun _ _ h => h, fun _ _ h => h⟩) (fun i hi => (hcrep i hi).mono ⟨fun _ _ h => h, fun _ _ h => h⟩)
    have hnew : ¬ h.has w.heap.size := fun hh => Nat.lt_irrefl _ (own.has_lt hh)
    have own2 := own'.sub (h' := h.ren b w.heap.size (appB k cs)) (nodup_ren own.nodup (fun hm => hnew (has_map.2 hm))) (fun x hx => by
      rcases mem_ren hx with rfl | hx
      · exact List.mem_cons_self
      · exact List.mem_cons_of_mem _ (mem_del hx))
    refine ⟨_, _, w.heap.size, hrun, fresh_of (fun ⟨k', hk'⟩ => hnew ⟨k', mem_del hk'⟩), own2, ?_, ?_, .inr (Nat.le_refl _)⟩
    · exact (frm_drw (fun c => c = b) w).trans (frm_alc (w := drw w) _ _) (fun _ _ x => x.elim)
    · refine .os _ 0 _ _ _ _ hge ⟨_, _, _, heap_alc_new, rfl⟩ ?_
      simp only [Builtin.zeroCells, Array.size_append, Array.size_map, Array.size_range, hcs, hcn, hos, hsz, Blk.length_cells, ← hlk]
      simp
      rw [← Nat.add_mul, ← Nat.add_mul]
      exact Nat.le_of_eq (by congr 1; omega)

end
end Go.Ab
/- One operation, and a region in the order of its text. -/
namespace Go.Ab
open Go.RowKit

def dstOk (N : Nat) (d : Option Tmp) : Prop := match d with
  | some i => i < N
  | none => True

def storeK (T : Option (Bool × Nat)) (a : SV) (cs : Option (List SV)) (dst : Option Tmp) (K : St → Prop) (S : St) : Prop :=
  match T, a, cs with
  | some (_, n), .op b off, some cs => match S.h.find b with
    | some k => cs.length = n ∧ off + n ≤ k.len ∧ K ((⟨S.t, S.h.upd b (setN k off cs)⟩ : St).put dst .any)
    | none => False
  | _, _, _ => False

/-- For every block that is new beside these. -/
def allF (h : Heap) (F : Nat → Prop) : Prop := ∀ b, fresh h b → F b

def callK (P : Program) (f : SV) (args : List SV) (dst : Option Tmp) (K : St → Prop) (S : St) : Prop :=
  match f with
  | .fn (.func g) first captured => Call P g (first ++ args ++ captured) S.h (fun r h' => K ((⟨S.t, h'⟩ : St).put dst r))
  | _ => False

def appNilK (n bytes size : Nat) (cs : List SV) (dst : Option Tmp) (K : St → Prop) (S : St) : Prop :=
  n * bytes ≤ 140737488355328 ∧ n ≤ 140737488355328 ∧ (n = 0 → K (S.put dst (.sc (.slice none 0 0)))) ∧
    (0 < n → allF S.h fun b => K ((⟨S.t, (b, newB cs) :: S.h⟩ : St).put dst (.os b 0 n size)))

def appOsK (n bytes size b off len sz : Nat) (cs : List SV) (dst : Option Tmp) (K : St → Prop) (S : St) : Prop :=
  match S.h.find b with
  | some k => off = 0 ∧ sz = size ∧ len * sz = k.len ∧ (len + n) * bytes ≤ 140737488355328 ∧ len + n ≤ 140737488355328 ∧
      allF (S.h.del b) fun b' => K ((⟨S.t, S.h.ren b b' (appB k cs)⟩ : St).put dst (.os b' 0 (len + n) sz))
  | none => False

def appK (L : Option (TypeId × Nat × Nat)) (Z : Option (List Value)) (ni : Bool) (s x : SV) (dst : Option Tmp) (K : St → Prop) (S : St) : Prop :=
  match L, Z, srcCells x S.h with
  | some (_, size, bytes), some z, some (n, cs) => ni = true ∧ srcOk size x S.h ∧ cs.all single = true ∧ z.length = size ∧ 0 < size ∧
    (match s with
    | .sc (.slice none 0 0) => appNilK n bytes size cs dst K S
    | .os b off len sz => appOsK n bytes size b off len sz cs dst K S
    | _ => False)
  | _, _, _ => False

/-- A number of zeros is appended to nothing. -/
def appZK (L : Option (TypeId × Nat × Nat)) (Z : Option (List Value)) (s x : SV) (dst : Option Tmp) (K : St → Prop) (S : St) : Prop :=
  match L, Z, s, x with
  | some (_, size, bytes), some z, .sc (.slice none 0 0), .sc (.int .i64 n) => z.length = size ∧ 0 < size ∧ 0 < n ∧ n * bytes ≤ 140737488355328 ∧ n ≤ 140737488355328 ∧
      allF S.h fun b => K ((⟨S.t, (b, zeros z n.toNat) :: S.h⟩ : St).put dst (.os b 0 n.toNat size))
  | _, _, _, _ => False

def effK (P : Program) (op : Op) (dst : Option Tmp) (K : St → Prop) (S : St) : Prop :=
  match op with
  | .store t a v => storeK (tk P t) (S.ev a) (svCells (S.ev v)) dst K S
  | .call ⟨.value f, args, _⟩ => callK P (S.ev f) (args.toList.map S.ev) dst K S
  | .call ⟨.builtin .append, ⟨[s, x]⟩, ⟨[st, xt]⟩⟩ => bif notInt P xt then appK (slk P st) (elemZ P st) true (S.ev s) (S.ev x) dst K S
      else bif (ik P xt).isSome then appZK (slk P st) (elemZ P st) (S.ev s) (S.ev x) dst K S else False
  | _ => False

def resK (R : VRes) (dst : Option Tmp) (E : Prop) (K : St → Prop) (S : St) : Prop :=
  match R with
  | .ok pre v => pre ∧ K (S.put dst v)
  | .new pre k mk => pre ∧ allF S.h fun b => K ((⟨S.t, (b, k) :: S.h⟩ : St).put dst (mk b))
  | .bad => E

def stepK (P : Program) (N : Nat) (o : Oper) (K : St → Prop) (S : St) : Prop :=
  dstOk N o.dst ∧ resK (valOp P o.op S.ev S.h) o.dst (effK P o.op o.dst K S) K S

section
variable {P : Program} {M : Nat → Prop} {w0 : World} {D : Nat → Prop} {N : Nat} {S : St} {a : Act} {w : World}

theorem Rel.put' {S : St} (h : Rel M w0 D N S a w) {d : Option Tmp} (hd : dstOk N d) {v : Value} {s : SV} (hv : Rep (envOf (hid M S.h) w) v s) : Rel M w0 D N (S.put d s) (a.put d v) w :=
  h.put (fun i hi => by subst hi; exact hd) hv

theorem Rel.fresh_not (hr : Rel M w0 D N S a w) : ¬ S.h.has w.heap.size := fun hh => Nat.lt_irrefl _ (hr.own.has_lt hh)

/-- What stands behind a step of an operation, in the abstract layer. -/
def After (M : Nat → Prop) (w0 : World) (D : Nat → Prop) (N : Nat) (K : St → Prop) : Act → World → Prop := fun a' w' => ∃ S', K S' ∧ Rel M w0 D N S' a' w'

theorem rep_ops {a : Act} (hr : Rel M w0 D N S a w) (xs : Array Operand) : Reps (envOf (hid M S.h) w) (xs.map a.eval) (xs.toList.map S.ev) := ops_rep hr.ev xs

theorem run_callFunc {f : FuncId} {fn : Func} {args : Array Value} (hf : P.funcs[f]? = some fn) (hb : fn.body.isNone = false) (hn : (fn.name == "runtime.NumGoroutine") = false) :
    (callFunc f args).run P w = .ok (.enter f args) w := by
  have hb' : ¬ (fn.body.isNone = true) := by rw [hb]; simp
  have hn' : ¬ ((fn.name == "runtime.NumGoroutine") = true) := by rw [hn]; simp
  unfold callFunc
  simp only [Sem.run_bind, run_program, Result.andThen_ok, hf, if_neg hn', if_neg hb', Sem.run_pure]

theorem storeK_sound {o : Oper} {K : St → Prop} {Q : Exit → Act → World → Prop} {t : TypeId} {x y : Operand} (hop : o.op = .store t x y) (hd : dstOk N o.dst)
    (hr : Rel M w0 D N S a w) (h : storeK (tk P t) (S.ev x) (svCells (S.ev y)) o.dst K S) : o.wp P a w (After M w0 D N K) Q := by
  unfold storeK at h
  split at h
  · rename_i g n b off cs hT hx hcs
    split at h
    · rename_i k hk
      obtain ⟨hl, hle, hK⟩ := h
      have hxr := hr.ev x
      rw [hx] at hxr
      generalize hxv : a.eval x = xv at hxr
      cases hxr with
      | op _ _ =>
        obtain ⟨h1, h2, h3⟩ := svCells_spec (hr.ev y) hcs
        have hm := Heap.find_mem hk
        obtain ⟨w', hrun, own', frm⟩ := storeCells_run (P := P) (a.eval y).cells.toList cs off 0 w S.h k hr.own hm (by simpa using h1) (by omega)
          (fun j hj => by rw [← getD_toList]; exact h2 j hj) (fun j hj => by rw [← getD_toList]; exact h3 j hj)
        have hexec : (execOp a.eval o).run P w = .ok .skip w' := by
          have hsz : (a.eval y).cells.size = n := by omega
          simp only [execOp, hop, Sem.run_bind, Instr.storeAt, Instr.sureAddr, hxv, Sem.run_pure, Result.andThen_ok, storeVar, run_sizeOf hT, hsz, ne_eq, not_true_eq_false, if_false, hrun]
        unfold Oper.wp
        rw [hexec]
        refine ⟨_, hK, Rel.put' ?_ hd (.any _)⟩
        exact hr.move frm (fun c hc _ => hc ▸ ⟨k, hm⟩) (by simpa using own') (fun c _ hc => has_upd.1 hc)
    · exact h.elim
  · exact h.elim

theorem callK_sound {o : Oper} {K : St → Prop} {Q : Exit → Act → World → Prop} {f : Operand} {args : Array Operand} {ts : Array TypeId} (hop : o.op = .call ⟨.value f, args, ts⟩) (hd : dstOk N o.dst)
    (hr : Rel M w0 D N S a w) (h : callK P (S.ev f) (args.toList.map S.ev) o.dst K S) : o.wp P a w (After M w0 D N K) Q := by
  unfold callK at h
  split at h
  · rename_i g first captured hf
    obtain ⟨⟨fn, hfn, hb, hnm⟩, hcall⟩ := h
    have hfr := hr.ev f
    rw [hf] at hfr
    generalize hfv : a.eval f = fv at hfr
    cases hfr with
    | fn _ c1 c2 _ _ l1 l2 h1 h2 =>
      have hreps : Reps (envOf (hid M S.h) w) (c1 ++ args.map a.eval ++ c2) (first ++ args.toList.map S.ev ++ captured) := Reps.append (Reps.append ⟨l1, h1⟩ (rep_ops hr args)) ⟨l2, h2⟩
      have hexec : (execOp a.eval o).run P w = .ok (.enter g (c1 ++ args.map a.eval ++ c2)) w := by
        simp only [execOp, hop, Sem.run_bind, resolve, hfv, Deferred.ofValue, Sem.run_pure, Result.andThen_ok, invoke]
        exact run_callFunc hfn hb hnm
      unfold Oper.wp
      rw [hexec]
      refine (hcall M w _ hr.own hreps).mono fun e w' ⟨v, r, h', he, hK, hv, own', frm, hh⟩ => ?_
      subst he
      refine ⟨_, hK, Rel.put' ?_ hd hv⟩
      exact hr.move frm (fun c hc _ => hc) own' (fun c hc x => hh c x hc)
  · exact h.elim

theorem execAppend {o : Oper} {s x : Operand} {st xt : TypeId} (hop : o.op = .call ⟨.builtin .append, ⟨[s, x]⟩, ⟨[st, xt]⟩⟩) {r : Value} {w' : World}
    (h : (Builtin.append_ #[st, xt] o.type #[a.eval s, a.eval x]).run P w = .ok r w') : (execOp a.eval o).run P w = .ok (.value r) w' := by
  simp [execOp, hop, resolve, invoke, builtin, h]

theorem appK_sound {o : Oper} {K : St → Prop} {Q : Exit → Act → World → Prop} {s x : Operand} {st xt : TypeId} (hop : o.op = .call ⟨.builtin .append, ⟨[s, x]⟩, ⟨[st, xt]⟩⟩) (hd : dstOk N o.dst)
    (hr : Rel M w0 D N S a w) (hN : notInt P xt = true) (h : appK (slk P st) (elemZ P st) true (S.ev s) (S.ev x) o.dst K S) : o.wp P a w (After M w0 D N K) Q := by
  unfold appK at h
  split at h
  · rename_i e size bytes z n cs hL hZ hsrc
    obtain ⟨hni', hso, hone, hz, h0, hs⟩ := h
    have hni := hN
    have hZ' : zk P e = some z := by simpa [elemZ, hL] using hZ
    have A : AppHyp P M S.h w st xt (a.eval x) (S.ev x) e size bytes n z cs := ⟨hr.ev x, hL, hZ', hni, hsrc, hso, hz, h0⟩
    have hsr := hr.ev s
    split at hs
    · rename_i hsv
      rw [hsv] at hsr
      generalize hv : a.eval s = sv at hsr
      cases hsr
      obtain ⟨hb, hn, hK0, hK1⟩ := hs
      by_cases hn0 : n = 0
      · subst hn0
        obtain ⟨hlen, nc, hcr, hcs, hcn, hcrep⟩ := src_sound (P := P) hr.own A.hx A.hc A.ho
        obtain ⟨i, hu, hin, rfl, rfl⟩ := slk_spec hL
        have hrun : (Builtin.append_ #[st, xt] o.type #[.slice none 0 0, a.eval x]).run P w = .ok (.slice none 0 0) w := by
          obtain ⟨d, hd', hdi⟩ := notInt_run hni
          unfold Builtin.append_
          cases d <;> first | (simp at hdi; done) | skip
          all_goals
            simp only [Sem.run_bind, run_underlying hu, Result.andThen_ok, run_sizeOf_info hin, run_underlying hd', Sem.run_pure, hlen, Sem.run_ite, List.getElem?_toArray, List.getElem?_cons_zero, List.getElem?_cons_succ,
              Bool.false_eq_true, if_false, Nat.add_zero, Nat.le_refl, Bool.not_false, if_true, hcr]
        unfold Oper.wp
        rw [execAppend hop (by rw [hv]; exact hrun)]
        exact ⟨_, hK0 rfl, hr.put' hd (.sc _)⟩
      · obtain ⟨r, c, hrun, own', hrep⟩ := append_nil (ty := o.type) hr.own A hb hn (by omega)
        unfold Oper.wp
        rw [execAppend hop (by rw [hv]; exact hrun)]
        refine ⟨_, hK1 (by omega) w.heap.size (fresh_of hr.fresh_not), Rel.put' ?_ hd hrep⟩
        exact hr.move (D' := fun _ => False) ((frm_drw _ w).trans (frm_alc (w := drw w) _ _) (fun _ _ x => x)) (fun _ x _ => x.elim) own' (fun b hb hh => by
          rcases has_cons.1 hh with rfl | hh
          · omega
          · exact hh)
    · rename_i b off len sz hsv
      unfold appOsK at hs
      split at hs
      · rename_i k hk
        obtain ⟨rfl, rfl, hlk, hb, hn, hK⟩ := hs
        rw [hsv] at hsr
        obtain ⟨r, w', b', hrun, hfr, own', frm, hrep, hbb⟩ := append_os (ty := o.type) hr.own A hsr (Heap.find_mem hk) hlk hone hb hn
        unfold Oper.wp
        rw [execAppend hop hrun]
        refine ⟨_, hK b' hfr, Rel.put' ?_ hd hrep⟩
        refine hr.move frm (fun c hc _ => hc ▸ ⟨k, Heap.find_mem hk⟩) own' (fun c hc hh => ?_)
        obtain ⟨k', hk'⟩ := hh
        rcases mem_ren hk' with hk' | hk'
        · cases hk'
          rcases hbb with rfl | hbb
          · exact ⟨k, Heap.find_mem hk⟩
          · omega
        · exact ⟨k', mem_del hk'⟩
      · exact hs.elim
    · exact hs.elim
  · exact h.elim

theorem zeros_len_eq (z : List Value) (n : Nat) : (zeros z n).len = n * z.length := by
  unfold zeros
  split <;> simp [Blk.len, length_zfill]

theorem appZK_sound {o : Oper} {K : St → Prop} {Q : Exit → Act → World → Prop} {s x : Operand} {st xt : TypeId} (hop : o.op = .call ⟨.builtin .append, ⟨[s, x]⟩, ⟨[st, xt]⟩⟩) (hd : dstOk N o.dst)
    (hr : Rel M w0 D N S a w) (hI : (ik P xt).isSome = true) (h : appZK (slk P st) (elemZ P st) (S.ev s) (S.ev x) o.dst K S) : o.wp P a w (After M w0 D N K) Q := by
  unfold appZK at h
  split at h
  · rename_i e size bytes z n hL hZ hsv hxv
    obtain ⟨hz, h0, hn0, hb, hn, hK⟩ := h
    have hZ' : zk P e = some z := by simpa [elemZ, hL] using hZ
    have hsr := hr.ev s
    have hxr := hr.ev x
    rw [hsv] at hsr
    rw [hxv] at hxr
    generalize hv1 : a.eval s = sv at hsr
    generalize hv2 : a.eval x = xv at hxr
    cases hsr
    cases hxr
    obtain ⟨i, hu, hin, rfl, rfl⟩ := slk_spec hL
    obtain ⟨i', zv, hi', hzv, rfl⟩ := zk_spec hZ'
    rw [hin] at hi'; cases hi'
    have hsz : zv.cells.size = i.size := by simpa using hz
    obtain ⟨k, hk⟩ : ∃ k, P.underlying xt = some (.int k) := by
      unfold ik at hI
      split at hI
      · rename_i k hk; exact ⟨k, hk⟩
      · cases hI
    obtain ⟨m, rfl⟩ : ∃ m : Nat, n = (m : Int) := ⟨n.toNat, by omega⟩
    have hwr : IntKind.i64.wrap (m : Int) = m := i64_wrap (by omega) (by omega)
    have hti : ∀ w, (typeInfo e).run P w = .ok i w := fun w => run_typeInfo hin w
    have hzr := fun w => run_zeroValue (P := P) (w := w) hin hzv
    have hpos : ¬ m * i.size = 0 := by
      have := Nat.mul_pos (show 0 < m by omega) h0
      omega
    have hcap : ¬ Builtin.nextslicecap (0 + m) 0 * i.bytes > 2 ^ 48 := by
      have h1 := nextcap_le (need := 0 + m) (old := 0) (by omega)
      have h2 := Nat.mul_le_mul_right i.bytes h1
      rw [Nat.mul_assoc, Nat.zero_add] at h2
      rw [Nat.zero_add]
      have h3 : ((m * i.bytes : Nat) : Int) ≤ 140737488355328 := by rw [Int.natCast_mul]; exact hb
      omega
    have hbig : ¬ ((m : Int) * (i.bytes : Int) > 2 ^ 48) := by omega
    have hmax : ¬ (((0 + m : Nat) : Int) > IntKind.i64.max ∧ (True ∨ i.bytes = 0)) := by rw [IntKind.max_i64]; omega
    obtain ⟨newCap, hge, hrun⟩ : ∃ newCap, m ≤ newCap ∧ (Builtin.append_ #[st, xt] o.type #[.slice none 0 0, .int .i64 m]).run P w =
        .ok (.slice (some ⟨w.heap.size, 0, none⟩) m newCap) (alc (drw w) (#[] ++ Builtin.zeroCells zv.cells m ++ Builtin.zeroCells zv.cells (newCap - m)) e) := by
      refine ⟨0 + m + (w.tape w.drawn (.appendCap (0 + m) 0 e)) % (2 ^ 63 - (0 + m)), by omega, ?_⟩
      unfold Builtin.append_
      simp only [Sem.run_bind, run_underlying hu, Result.andThen_ok, run_sizeOf_info hin, run_underlying hk, Sem.run_pure, Sem.run_ite, List.getElem?_toArray, List.getElem?_cons_zero, List.getElem?_cons_succ,
        if_true, asInt, asIntOf, hwr, if_neg (show ¬ (m : Int) < 0 by omega), hti, if_neg hbig, Int.toNat_natCast, if_neg (show ¬ 0 + m ≤ 0 by omega), if_neg hmax, if_neg hcap, run_choose_cap, run_askRoom, Builtin.firstCells, Bool.not_true, Bool.false_eq_true, if_false, if_neg hpos, hzr, newRow, run_newObj]
      simp
      exact ⟨rfl, rfl⟩
    have own' := grow_owns (oc := #[]) (nc := Builtin.zeroCells zv.cells m) (rest := Builtin.zeroCells zv.cells (newCap - m)) (e := e) (os := []) (cs := (zeros zv.cells.toList m).cells) (k' := zeros zv.cells.toList m) hr.own rfl rfl
      (by rw [Blk.length_cells, zeros_len_eq]; simp [Builtin.zeroCells]) (fun i hi => absurd hi (by simp)) (fun i hi => by
        rw [Blk.length_cells] at hi
        rw [Blk.get_cells _ _ hi]
        exact zeros_get zv.cells m i hi)
    unfold Oper.wp
    rw [execAppend hop (by rw [hv1, hv2]; exact hrun)]
    refine ⟨_, hK w.heap.size (fresh_of hr.fresh_not), Rel.put' ?_ hd ?_⟩
    · exact hr.move (D' := fun _ => False) ((frm_drw _ w).trans (frm_alc (w := drw w) _ _) (fun _ _ x => x)) (fun _ x _ => x.elim) own' (fun b hb hh => by
        rcases has_cons.1 hh with rfl | hh
        · omega
        · exact hh)
    · refine .os _ 0 _ _ _ _ hge ⟨_, _, _, heap_alc_new, rfl⟩ ?_
      simp only [Builtin.zeroCells, Array.size_append, Array.size_map, Array.size_range, hsz]
      simp
      rw [← Nat.add_mul]
      exact Nat.le_of_eq (by congr 1; omega)
  · exact h.elim

theorem stepK_sound {o : Oper} {K : St → Prop} {Q : Exit → Act → World → Prop} (hr : Rel M w0 D N S a w) (h : stepK P N o K S) : o.wp P a w (After M w0 D N K) Q := by
  obtain ⟨hd, h⟩ := h
  unfold resK at h
  split at h
  · rename_i pre v hv
    obtain ⟨hp, hK⟩ := h
    obtain ⟨r, hrun, hrep⟩ := valOp_ok (P := P) (o := o) hr.own hr.ev hv hp
    unfold Oper.wp
    rw [hrun]
    exact ⟨_, hK, hr.put' hd hrep⟩
  · rename_i pre k mk hv
    obtain ⟨hp, hK⟩ := h
    obtain ⟨x, hx, ⟨c, e, u, hrun, hl, hcr, hrep⟩⟩ := valOp_new (P := P) (o := o) (M := M) (w := w) hr.ev hv hp
    unfold Oper.wp
    rw [hx, run_asNext hrun]
    refine ⟨_, hK w.heap.size (fresh_of hr.fresh_not), Rel.put' ?_ hd hrep⟩
    exact hr.move (frm_alc c e) (fun _ x _ => x.elim) (hr.own.alc hl hcr) (fun b hb hh => by
      rcases has_cons.1 hh with rfl | hh
      · omega
      · exact hh)
  · unfold effK at h
    split at h
    · rename_i t x y hop; exact storeK_sound hop hd hr h
    · rename_i f args ts hop; exact callK_sound hop hd hr h
    · rename_i s x st xt hop
      by_cases hN : notInt P xt = true
      · rw [hN] at h; exact appK_sound hop hd hr hN h
      · simp only [Bool.not_eq_true] at hN
        rw [hN] at h
        by_cases hI : (ik P xt).isSome = true
        · rw [hI] at h; exact appZK_sound hop hd hr hI h
        · simp only [Bool.not_eq_true] at hI
          rw [hI] at h; exact h.elim
    · exact h.elim

/-- A guard: the other operation's Bool decides; where it is not known both ways are gone, and it is known behind. -/
def guardB (x : SV) (t : Tmp) (want : Bool) (S : St) (A B : St → Prop) : Prop :=
  match x with
  | .sc (.bool b) => if b = true then (bif want then A (S.put (some t) (.sc (.bool true))) else B (S.put (some t) (.sc (.bool true)))) else (bif want then B (S.put (some t) (.sc (.bool false))) else A (S.put (some t) (.sc (.bool false))))
  | .sc (.tuple _) => B S
  | _ => False

def guardK (t : Option Tmp) (want : Bool) (S : St) (A B : St → Prop) : Prop :=
  match t with
  | none => False
  | some t => guardB (look S.t t) t want S A B

def gdst (ops : List Oper) (j : Nat) : Option Tmp := match ops[j]? with
  | some o => o.dst
  | none => none

def gstep (ops : List Oper) (N : Nat) (g : Option (Nat × Bool)) (dst : Option Tmp) (A : St → Prop) (K : St → Prop) (S : St) : Prop :=
  match g with
  | none => A S
  | some (j, want) => guardK (gdst ops j) want S A (fun S => dstOk N dst ∧ K (S.put dst (.sc undef)))

def vcOps (P : Program) (N : Nat) (ops : List Oper) (l : List Oper) (K : St → Prop) (S : St) : Prop := match l with
  | [] => K S
  | o :: r => gstep ops N o.guard o.dst (stepK P N o (vcOps P N ops r K)) (vcOps P N ops r K) S

theorem yielded_look {ops : List Oper} {j : Nat} {t : Tmp} {b : Bool} (hg : gdst ops j = some t) (hr : Rel M w0 D N S a w) (hl : look S.t t = .sc (.bool b)) : yielded ops.toArray a.tmps j = some b := by
  unfold gdst at hg
  split at hg
  · rename_i o ho
    have h1 := hr.t t
    rw [hl] at h1
    unfold yielded
    simp only [List.getElem?_toArray, ho, Option.bind_some, hg]
    rcases Nat.lt_or_ge t a.tmps.size with hlt | hge
    · simp only [Array.getD_eq_getD_getElem?, Array.getElem?_eq_getElem hlt, Option.getD_some] at h1 ⊢
      generalize a.tmps[t] = v at h1
      cases h1
      rfl
    · simp only [Array.getD_eq_getD_getElem?, Array.getElem?_eq_none hge, Option.getD_none, undef] at h1
      cases h1
  · cases hg

theorem yielded_tup {ops : List Oper} {j : Nat} {t : Tmp} {c : Array Value} (hg : gdst ops j = some t) (hr : Rel M w0 D N S a w) (hl : look S.t t = .sc (.tuple c)) : yielded ops.toArray a.tmps j = none := by
  unfold gdst at hg
  split at hg
  · rename_i o ho
    have h1 := hr.t t
    rw [hl] at h1
    unfold yielded
    simp only [List.getElem?_toArray, ho, Option.bind_some, hg]
    rcases Nat.lt_or_ge t a.tmps.size with hlt | hge
    · simp only [Array.getD_eq_getD_getElem?, Array.getElem?_eq_getElem hlt, Option.getD_some] at h1 ⊢
      generalize a.tmps[t] = v at h1
      cases h1
      rfl
    · simp [Array.getElem?_eq_none hge]
  · cases hg

/-- A guard is met: the state may say which way, and the operation comes up or not. -/
theorem gstep_sound {ops : List Oper} {o : Oper} {A K : St → Prop} (hr : Rel M w0 D N S a w) (h : gstep ops N o.guard o.dst A K S) :
    ∃ S', Rel M w0 D N S' a w ∧ ((Region.wanted o (yielded ops.toArray a.tmps) = true ∧ A S') ∨ (Region.wanted o (yielded ops.toArray a.tmps) = false ∧ dstOk N o.dst ∧ K (S'.put o.dst (.sc undef)))) := by
  unfold gstep at h
  unfold Region.wanted
  cases hg : o.guard with
  | none => rw [hg] at h; exact ⟨S, hr, .inl ⟨rfl, h⟩⟩
  | some jw =>
    obtain ⟨j, want⟩ := jw
    rw [hg] at h
    simp only [guardK] at h
    split at h
    · exact h.elim
    · rename_i t ht
      have put : ∀ b, look S.t t = .sc (.bool b) → Rel M w0 D N (S.put (some t) (.sc (.bool b))) a w := fun b hb => by
        have h1 := hr.t t
        rw [hb] at h1
        refine ⟨hr.defers, hr.n, fun i => ?_, hr.own, hr.frm, hr.new⟩
        show Rep _ _ (look ((t, SV.sc (.bool b)) :: S.t) i)
        rw [look_cons]
        by_cases hi : t = i
        · subst hi
          rw [show Nat.beq t t = true by rw [Nat.beq_eq]]
          exact h1
        · rw [show Nat.beq t i = false by rw [← Bool.not_eq_true, Nat.beq_eq]; exact hi]
          exact hr.t i
      unfold guardB at h
      split at h
      · rename_i b hl
        refine ⟨_, put b hl, ?_⟩
        simp only [yielded_look ht hr hl]
        cases b
        · simp only [Bool.false_eq_true, if_false] at h
          cases want
          · exact .inl ⟨rfl, h⟩
          · exact .inr ⟨rfl, h⟩
        · simp only [if_true] at h
          cases want
          · exact .inr ⟨rfl, h⟩
          · exact .inl ⟨rfl, h⟩
      · rename_i c hl
        refine ⟨S, hr, .inr ⟨?_, h⟩⟩
        simp only [yielded_tup ht hr hl]
        rfl
      · exact h.elim

theorem vcOps_sound {ops : List Oper} {Q : Exit → Act → World → Prop} {K : St → Prop} (hK : ∀ S a w, K S → Rel M w0 D N S a w → Q .normal a w) :
    ∀ (l : List Oper) (S : St) (a : Act) (w : World), vcOps P N ops l K S → Rel M w0 D N S a w → wpList P ops.toArray Q l a w
  | [], S, a, w, h, hr => wpList_nil (hK S a w h hr)
  | o :: r, S, a, w, h, hr => by
    obtain ⟨S', hr', h'⟩ := gstep_sound (ops := ops) hr h
    refine wpList_step fun K' hK' => ?_
    rcases h' with ⟨hw, hA⟩ | ⟨hw, hd, hB⟩
    · rw [if_pos hw]
      exact Oper.wp_mono (fun a' w' ⟨S'', h1, h2⟩ => hK' a' w' (vcOps_sound hK r S'' a' w' h1 h2)) (stepK_sound hr' hA)
    · rw [if_neg (by rw [hw]; simp)]
      exact hK' _ _ (vcOps_sound hK r _ _ _ hB (hr'.put' hd (.sc _)))

end
end Go.Ab
/- Calls that leave the owned blocks alone; regions that draw their order. -/
namespace Go.Ab
open Go.RowKit

/-- A call whose result is known and that touches nothing that is owned. -/
def PCall (P : Program) (f : FuncId) (args : List SV) (r : SV) : Prop := Call P f args [] (fun r' h' => r' = r ∧ h' = [])

section
variable {P : Program} {M : Nat → Prop} {w0 : World} {D : Nat → Prop} {N : Nat} {h : Heap} {w : World}

theorem has_append {h1 h2 : Heap} {b : Nat} : Heap.has (h1 ++ h2) b ↔ h1.has b ∨ h2.has b := by
  unfold Heap.has
  simp only [List.mem_append]
  constructor
  · rintro ⟨k, hk | hk⟩
    · exact .inl ⟨k, hk⟩
    · exact .inr ⟨k, hk⟩
  · rintro (⟨k, hk⟩ | ⟨k, hk⟩)
    · exact ⟨k, .inl hk⟩
    · exact ⟨k, .inr hk⟩

theorem hid_append (M : Nat → Prop) (h1 h2 : Heap) : hid (hid M h2) h1 = hid M (h1 ++ h2) := by
  funext b
  simp only [hid, has_append]
  exact propext ⟨fun x => x.elim (fun x => x.elim .inl (fun y => .inr (.inr y))) (fun y => .inr (.inl y)), fun x => x.elim (fun y => .inl (.inl y)) (fun x => x.elim .inr (fun y => .inl (.inr y)))⟩

/-- **A call owns what it was handed; what else is owned stays as it is.** -/
theorem Call.frame {f : FuncId} {args : List SV} {h1 h2 : Heap} {Q : SV → Heap → Prop} (hc : Call P f args h1 Q) :
    Call P f args (h1 ++ h2) (fun r h' => ∃ h1', h' = h1' ++ h2 ∧ Q r h1') := by
  refine ⟨hc.1, fun M w vs own hr => ?_⟩
  have hnd := own.nodup
  rw [List.map_append, List.nodup_append] at hnd
  obtain ⟨n1, n2, n12⟩ := hnd
  have own1 : Owns (hid M h2) h1 w := by
    refine ⟨n1, fun b hb hm => ?_, fun b hb => ?_, fun b k hk => ?_⟩
    · rcases hm with hm | hm
      · exact own.notM b (has_append.2 (.inl hb)) hm
      · exact n12 b (has_map.1 hb) b (has_map.1 hm) rfl
    · rcases hb with hb | hb
      · exact own.lt b hb
      · exact own.has_lt (has_append.2 (.inr hb))
    · obtain ⟨c, e, h0, hl, hrp⟩ := own.ok b k (List.mem_append_left _ hk)
      rw [hid_append]
      exact ⟨c, e, h0, hl, hrp⟩
  refine (hc.2 (hid M h2) w vs own1 (by rw [hid_append]; exact hr)).mono fun e w' ⟨v, r, h1', he, hq, hv, own1', frm, hh⟩ => ?_
  refine ⟨v, r, h1' ++ h2, he, ⟨h1', rfl, hq⟩, by rw [← hid_append]; exact hv, ?_, ?_, fun b hb hlt => ?_⟩
  · refine ⟨?_, fun b hb hm => ?_, fun b hb => Nat.lt_of_lt_of_le (own.lt b hb) frm.size, fun b k hk => ?_⟩
    · rw [List.map_append, List.nodup_append]
      refine ⟨own1'.nodup, n2, fun b hb c hc' hbc => ?_⟩
      subst hbc
      have hlt : b < w.heap.size := own.has_lt (has_append.2 (.inr (has_map.2 hc')))
      exact n12 b (has_map.1 (hh b (has_map.2 hb) hlt)) b hc' rfl
    · rcases has_append.1 hb with hb | hb
      · exact own1'.notM b hb (.inl hm)
      · exact own.notM b (has_append.2 (.inr hb)) hm
    · rcases List.mem_append.1 hk with hk | hk
      · obtain ⟨c, e, h0, hl, hrp⟩ := own1'.ok b k hk
        exact ⟨c, e, h0, hl, fun i hi => by rw [← hid_append]; exact hrp i hi⟩
      · obtain ⟨c, e, h0, hl, hrp⟩ := own.ok b k (List.mem_append_right _ hk)
        have hlt := lt_of_heap h0
        have hn1 : ¬ h1.has b := fun x => n12 b (has_map.1 x) b (has_map.1 ⟨k, hk⟩) rfl
        refine ⟨c, e, by rw [frm.keep b hlt hn1]; exact h0, hl, fun i hi => (hrp i hi).mono (env_le frm (fun c hc _ => .inr (has_append.2 (.inl hc))) (fun c hc x => ?_))⟩
        rcases x with x | x
        · exact .inl x
        · rcases has_append.1 x with x | x
          · exact .inr (has_append.2 (.inl (hh c x hc)))
          · exact .inr (has_append.2 (.inr x))
  · exact ⟨frm.size, fun b hb hn => frm.keep b hb (fun x => hn (has_append.2 (.inl x))), frm.sizes, frm.os, frm.tape, frm.output⟩
  · rcases has_append.1 hb with hb | hb
    · exact has_append.2 (.inl (hh b hb hlt))
    · exact has_append.2 (.inr hb)

theorem Call.of_pure {f : FuncId} {args : List SV} {r : SV} {h : Heap} {Q : SV → Heap → Prop} (hc : PCall P f args r) (hq : Q r h) : Call P f args h Q :=
  (Call.frame (h2 := h) hc).mono fun r' h' ⟨h1', e1, e2, e3⟩ => by subst e1 e2 e3; exact hq

theorem Call.perm {f : FuncId} {args : List SV} {h h' : Heap} {Q : SV → Heap → Prop} (hc : Call P f args h' Q) (hp : ∀ x, x ∈ h' ↔ x ∈ h) (hn : (h.map (·.1)).Nodup → (h'.map (·.1)).Nodup) : Call P f args h Q := by
  refine ⟨hc.1, fun M w vs own hr => ?_⟩
  have hhas : h'.has = h.has := by funext b; unfold Heap.has; exact propext ⟨fun ⟨k, hk⟩ => ⟨k, (hp _).1 hk⟩, fun ⟨k, hk⟩ => ⟨k, (hp _).2 hk⟩⟩
  have hhid : hid M h' = hid M h := by funext b; simp only [hid, hhas]
  have own' : Owns M h' w := ⟨hn own.nodup, fun b hb => own.notM b (hhas ▸ hb), own.lt, fun b k hk => by rw [hhid]; exact own.ok b k ((hp _).1 hk)⟩
  refine (hc.2 M w vs own' (by rw [hhid]; exact hr)).mono fun e w' ⟨v, r, h1, he, hq, hv, o1, frm, hh⟩ => ?_
  exact ⟨v, r, h1, he, hq, hv, o1, hhas ▸ frm, fun b hb hlt => hhas ▸ hh b hb hlt⟩

/-! ### regions that draw their order -/

/-- Operations that only compute, read, or call what touches nothing. -/
def stableOp : Op → Bool
  | .move _ => true
  | .assign _ => true
  | .pick _ _ _ => true
  | .binOp _ _ _ _ _ => true
  | .unOp _ _ _ => true
  | .load _ _ => true
  | .indexAddr _ _ _ => true
  | .index _ _ _ => true
  | .fieldAddr _ _ _ => true
  | .field _ _ _ => true
  | .extract _ _ => true
  | .nilCheck _ => true
  | .slice _ _ _ _ _ => true
  | .convert _ _ _ => true
  | .build _ _ => true
  | .makeFunc _ _ _ => true
  | .call ⟨.value _, _, _⟩ => true
  | .call ⟨.builtin .len, _, _⟩ => true
  | .call ⟨.builtin .min, _, _⟩ => true
  | .call ⟨.builtin .max, _, _⟩ => true
  | _ => false

/-- What an operation yields where it is stable. -/
def Yld (P : Program) (o : Oper) (ρ : Operand → SV) (h : Heap) (v : SV) : Prop :=
  (∃ pre, valOp P o.op ρ h = .ok pre v ∧ pre) ∨
  ∃ f args ts g first captured, o.op = .call ⟨.value f, args, ts⟩ ∧ ρ f = .fn (.func g) first captured ∧ PCall P g (first ++ args.toList.map ρ ++ captured) v

def pcallK (P : Program) (f : SV) (args : List SV) (dst : Option Tmp) (K : St → Prop) (S : St) : Prop :=
  match f with
  | .fn (.func g) first captured => ∃ r, PCall P g (first ++ args ++ captured) r ∧ K (S.put dst r)
  | _ => False

def effD (P : Program) (op : Op) (dst : Option Tmp) (K : St → Prop) (S : St) : Prop :=
  match op with
  | .call ⟨.value f, args, _⟩ => pcallK P (S.ev f) (args.toList.map S.ev) dst K S
  | _ => False

def resD (R : VRes) (dst : Option Tmp) (E : Prop) (K : St → Prop) (S : St) : Prop :=
  match R with
  | .ok pre v => pre ∧ K (S.put dst v)
  | .new _ _ _ => False
  | .bad => E

def stepD (P : Program) (N : Nat) (o : Oper) (K : St → Prop) (S : St) : Prop :=
  bif stableOp o.op then dstOk N o.dst ∧ resD (valOp P o.op S.ev S.h) o.dst (effD P o.op o.dst K S) K S else stepK P N o K S

def vcD (P : Program) (N : Nat) (ops : List Oper) (l : List Oper) (K : St → Prop) (S : St) : Prop := match l with
  | [] => K S
  | o :: r => gstep ops N o.guard o.dst (stepD P N o (vcD P N ops r K)) (vcD P N ops r K) S

/-! the any-order predicate, over what the temporaries hold -/

def evF (T : Nat → SV) : Operand → SV
  | .tmp i => T i
  | .const v => .sc v
  | .global _ => .any
  | .func f => .fn (.func f) [] []

def putF (T : Nat → SV) (d : Option Tmp) (v : SV) : Nat → SV := match d with
  | some d => fun i => bif Nat.beq d i then v else T i
  | none => T

theorem ev_look (S : St) : S.ev = evF (look S.t) := by funext x; cases x <;> rfl
theorem look_put (S : St) (d : Option Tmp) (v : SV) : look (S.put d v).t = putF (look S.t) d v := by cases d <;> rfl
theorem h_put (S : St) (d : Option Tmp) (v : SV) : (S.put d v).h = S.h := by cases d <;> rfl

/-- Is the operation wanted? -/
def Wtd (ops : List Oper) (g : Option (Nat × Bool)) (T : Nat → SV) (yes : Bool) : Prop := match g with
  | none => yes = true
  | some (j, want) => ∃ t, gdst ops j = some t ∧ ((∃ b, T t = .sc (.bool b) ∧ yes = (b == want)) ∨ (∃ c, T t = .sc (.tuple c) ∧ yes = false))

def YA (P : Program) (N : Nat) (ops : List Oper) (o : Oper) (T : Nat → SV) (h : Heap) (v : SV) : Prop :=
  dstOk N o.dst ∧ ((Wtd ops o.guard T true ∧ Yld P o (evF T) h v) ∨ (Wtd ops o.guard T false ∧ v = .sc undef))

def opA (P : Program) (N : Nat) (ops : List Oper) (i : Nat) (K : (Nat → SV) → Heap → Prop) (T : Nat → SV) (h : Heap) : Prop :=
  match ops[i]? with
  | none => K T h
  | some o => bif stableOp o.op then ∃ v, YA P N ops o T h v ∧ K (putF T o.dst v) h
    else ∃ S, look S.t = T ∧ S.h = h ∧ gstep ops N o.guard o.dst (stepK P N o (fun S => K (look S.t) S.h)) (fun S => K (look S.t) S.h) S

def anyA (P : Program) (N : Nat) (ops : List Oper) (K : (Nat → SV) → Heap → Prop) : Nat → Array Bool → (Nat → SV) → Heap → Prop
  | 0, listed, T, h => Region.ready .any ops.toArray listed = [] ∧ K T h
  | f + 1, listed, T, h => (Region.ready .any ops.toArray listed = [] → K T h) ∧
    ∀ i ∈ Region.ready .any ops.toArray listed, opA P N ops i (anyA P N ops K f (listed.setIfInBounds i true)) T h

theorem Rel.look_eq {S S' : St} {a : Act} (hr : Rel M w0 D N S a w) (h1 : look S'.t = look S.t) (h2 : S'.h = S.h) : Rel M w0 D N S' a w :=
  ⟨hr.defers, hr.n, fun i => by rw [h1, h2]; exact hr.t i, by rw [h2]; exact hr.own, hr.frm, by rw [h2]; exact hr.new⟩

theorem yielded_F {ops : List Oper} {S : St} {a : Act} {o : Oper} {yes : Bool} (hr : Rel M w0 D N S a w) (hw : Wtd ops o.guard (look S.t) yes) : Region.wanted o (yielded ops.toArray a.tmps) = yes := by
  unfold Wtd at hw
  unfold Region.wanted
  split at hw
  · rename_i hg; rw [hg]; exact hw.symm
  · rename_i j want hg
    obtain ⟨t, ht, hw⟩ := hw
    rw [hg]
    rcases hw with ⟨b, hT, rfl⟩ | ⟨c, hT, rfl⟩
    · simp only [yielded_look ht hr hT]
      cases b <;> cases want <;> rfl
    · simp only [yielded_tup ht hr hT]
      rfl

theorem yld_sound {o : Oper} {S : St} {a : Act} {v : SV} {K : Act → World → Prop} {Q : Exit → Act → World → Prop} (hr : Rel M w0 D N S a w) (hd : dstOk N o.dst) (hy : Yld P o (evF (look S.t)) S.h v)
    (hK : ∀ a' w', Rel M w0 D N (S.put o.dst v) a' w' → K a' w') : o.wp P a w K Q := by
  rw [← ev_look] at hy
  rcases hy with ⟨pre, hv, hp⟩ | ⟨f, args, ts, g, first, captured, hop, hf, hc⟩
  · obtain ⟨r, hrun, hrep⟩ := valOp_ok (P := P) (o := o) hr.own hr.ev hv hp
    unfold Oper.wp
    rw [hrun]
    exact hK _ _ (hr.put' hd hrep)
  · have := callK_sound (P := P) (o := o) (K := fun S' => S' = S.put o.dst v) (Q := Q) hop hd hr (by
      unfold callK
      rw [hf]
      exact Call.of_pure hc rfl)
    exact Oper.wp_mono (fun a' w' ⟨S', e1, e2⟩ => hK a' w' (e1 ▸ e2)) this

theorem anyA_sound {ops : List Oper} {Q : Exit → Act → World → Prop} {K : (Nat → SV) → Heap → Prop} (hK : ∀ S a w, K (look S.t) S.h → Rel M w0 D N S a w → Q .normal a w) :
    ∀ (f : Nat) (listed : Array Bool) (S : St) (a : Act) (w : World), Rel M w0 D N S a w → anyA P N ops K f listed (look S.t) S.h → wpAny P .any ops.toArray Q f listed a w
  | 0, listed, S, a, w, hr, h => ⟨h.1, hK S a w h.2 hr⟩
  | f + 1, listed, S, a, w, hr, h => by
    refine ⟨fun h0 => hK S a w (h.1 h0) hr, fun i hi => ?_⟩
    have hop := h.2 i hi
    unfold opA at hop
    unfold wpOp
    simp only [List.getElem?_toArray]
    split
    · rename_i ho
      simp only [ho] at hop
      exact anyA_sound hK f _ S a w hr hop
    · rename_i o ho
      simp only [ho] at hop
      by_cases hs : stableOp o.op = true
      · rw [hs] at hop
        simp only [cond_true] at hop
        obtain ⟨v, ⟨hd, hy⟩, hn⟩ := hop
        have next : ∀ a' w', Rel M w0 D N (S.put o.dst v) a' w' → wpAny P .any ops.toArray Q f (listed.setIfInBounds i true) a' w' := fun a' w' hr' =>
          anyA_sound hK f _ (S.put o.dst v) a' w' hr' (by rw [look_put, h_put]; exact hn)
        rcases hy with ⟨hw, hy⟩ | ⟨hw, rfl⟩
        · rw [if_pos (yielded_F hr hw)]
          exact .inl (yld_sound hr hd hy next)
        · rw [if_neg (by rw [yielded_F hr hw]; simp)]
          exact next _ _ (hr.put' hd (.sc _))
      · simp only [Bool.not_eq_true] at hs
        rw [hs] at hop
        simp only [cond_false] at hop
        obtain ⟨S1, e1, e2, hg⟩ := hop
        have hr1 := hr.look_eq e1 e2
        obtain ⟨S', hr', h'⟩ := gstep_sound (ops := ops) hr1 hg
        rcases h' with ⟨hw, hA⟩ | ⟨hw, hd, hB⟩
        · rw [if_pos hw]
          exact .inl (Oper.wp_mono (fun a' w' ⟨S'', h1, h2⟩ => anyA_sound hK f _ S'' a' w' h2 h1) (stepK_sound hr' hA))
        · rw [if_neg (by rw [hw]; simp)]
          exact anyA_sound hK f _ _ _ _ (hr'.put' hd (.sc _)) hB

end
end Go.Ab
/- A region that draws its order: the order of the text serves every order. -/
namespace Go.Ab
open Go.RowKit

section
variable {P : Program} {M : Nat → Prop} {w0 : World} {D : Nat → Prop} {N : Nat} {h : Heap} {w : World}

theorem map_op_congr {ρ ρ' : Operand → SV} (xs : Array Operand) (h : ∀ x ∈ xs, ρ x = ρ' x) : xs.toList.map ρ = xs.toList.map ρ' :=
  List.map_congr_left fun x hx => h x (by simpa using hx)

theorem omap_congr {ρ ρ' : Operand → SV} (o : Option Operand) (h : ∀ x ∈ o.toArray, ρ x = ρ' x) : o.map ρ = o.map ρ' := by
  cases o with
  | none => rfl
  | some x => simp [h x (by simp)]

theorem valOp_congr {op : Op} (hs : stableOp op = true) {ρ ρ' : Operand → SV} (h : Heap) (he : ∀ x ∈ op.operands, ρ x = ρ' x) : valOp P op ρ h = valOp P op ρ' h := by
  unfold stableOp at hs
  split at hs
  all_goals try (cases hs; done)
  all_goals simp only [Op.operands] at he
  case h_13 t x lo hi mx =>
    have e1 := he x (by simp)
    have e2 := omap_congr lo (fun y hy => he y (by simp at hy ⊢; simp [hy]))
    have e3 := omap_congr hi (fun y hy => he y (by simp at hy ⊢; simp [hy]))
    have e4 := omap_congr mx (fun y hy => he y (by simp at hy ⊢; simp [hy]))
    simp only [valOp, e1, e2, e3, e4]
  case h_15 t ps =>
    simp only [valOp]
    have : (ps.toList.map fun (i, x) => (i, ρ x)) = (ps.toList.map fun (i, x) => (i, ρ' x)) := List.map_congr_left fun p hp => by
      obtain ⟨i, x⟩ := p
      have hm : x ∈ ((ps.toList.map (·.2)).toArray : Array Operand) := by
        rw [List.mem_toArray]
        exact List.mem_map.2 ⟨(i, x), hp, rfl⟩
      simp only [he x hm]
    rw [this]
  case h_16 fn a c =>
    simp only [valOp]
    rw [map_op_congr a (fun x hx => he x (by simp [hx])), map_op_congr c (fun x hx => he x (by simp [hx]))]
  case h_17 f args ts => rfl
  case h_18 args ts =>
    unfold valOp
    split <;> first | rfl | skip
    all_goals simp_all [Call.operands, Go.Call.operands]
  case h_19 args ts =>
    unfold valOp
    split <;> first | rfl | skip
    all_goals simp_all [Go.Call.operands]
  case h_20 args ts =>
    unfold valOp
    split <;> first | rfl | skip
    all_goals simp_all [Go.Call.operands]
  all_goals simp_all [valOp]

theorem Yld_congr {o : Oper} (hs : stableOp o.op = true) {ρ ρ' : Operand → SV} (he : ∀ x ∈ o.op.operands, ρ x = ρ' x) {v : SV} (hy : Yld P o ρ h v) : Yld P o ρ' h v := by
  rcases hy with ⟨pre, hv, hp⟩ | ⟨f, args, ts, g, first, captured, hop, hf, hc⟩
  · exact .inl ⟨pre, by rw [← valOp_congr hs h he]; exact hv, hp⟩
  · rw [hop] at he
    simp only [Op.operands, Go.Call.operands] at he
    have e1 : ρ' f = ρ f := (he f (by simp)).symm
    have e2 : args.toList.map ρ' = args.toList.map ρ := (map_op_congr args (fun x hx => he x (by simp [hx]))).symm
    exact .inr ⟨f, args, ts, g, first, captured, hop, by rw [e1]; exact hf, by rw [e2]; exact hc⟩

/-- What an operation looks at is told apart from what is put. -/
def Away (ops : List Oper) (o : Oper) (d : Option Tmp) : Prop := ∀ t, d = some t → t ∉ o.looksAt ops.toArray

theorem putF_other {T : Nat → SV} {d : Option Tmp} {v : SV} {i : Nat} (hne : d ≠ some i) : putF T d v i = T i := by
  cases d with
  | none => rfl
  | some d =>
    have : Nat.beq d i = false := by rw [← Bool.not_eq_true, Nat.beq_eq]; exact fun e => hne (by rw [e])
    simp [putF, this]

theorem evF_putF {ops : List Oper} {o : Oper} {T : Nat → SV} {d : Option Tmp} {v : SV} (ha : Away ops o d) : ∀ x ∈ o.op.operands, evF (putF T d v) x = evF T x := by
  intro x hx
  cases x with
  | tmp i =>
    refine putF_other (fun e => ha i e ?_)
    exact List.mem_append_left _ (List.mem_filterMap.2 ⟨.tmp i, by simpa using hx, rfl⟩)
  | _ => rfl

theorem Wtd_putF {ops : List Oper} {o : Oper} {T : Nat → SV} {d : Option Tmp} {v : SV} (ha : Away ops o d) {yes : Bool} : Wtd ops o.guard (putF T d v) yes ↔ Wtd ops o.guard T yes := by
  unfold Wtd
  split
  · exact Iff.rfl
  · rename_i j want hg
    have key : ∀ t, gdst ops j = some t → putF T d v t = T t := fun t ht => by
      refine putF_other (fun e => ha t e ?_)
      refine List.mem_append_right _ ?_
      rw [hg]
      unfold gdst at ht
      split at ht
      · rename_i o' ho'
        simp only [List.getElem?_toArray, ho', Option.bind_some, ht]
        simp
      · cases ht
    constructor
    · rintro ⟨t, ht, hT⟩; exact ⟨t, ht, by rw [key t ht] at hT; exact hT⟩
    · rintro ⟨t, ht, hT⟩; exact ⟨t, ht, by rw [key t ht]; exact hT⟩

theorem YA_putF {ops : List Oper} {o : Oper} (hs : stableOp o.op = true) {T : Nat → SV} {d : Option Tmp} {v u : SV} (ha : Away ops o d) : YA P N ops o (putF T d v) h u ↔ YA P N ops o T h u := by
  unfold YA
  have hy : Yld P o (evF (putF T d v)) h u ↔ Yld P o (evF T) h u :=
    ⟨Yld_congr hs (evF_putF ha), Yld_congr hs (fun x hx => (evF_putF ha x hx).symm)⟩
  rw [Wtd_putF ha, Wtd_putF ha, hy]

theorem putF_comm (T : Nat → SV) {x y : Option Tmp} (v u : SV) (hne : ∀ d, x = some d → y ≠ some d) : putF (putF T x v) y u = putF (putF T y u) x v := by
  cases x with
  | none => rfl
  | some d =>
    cases y with
    | none => rfl
    | some e =>
      have hde : d ≠ e := fun he => hne d rfl (he ▸ rfl)
      funext i
      simp only [putF]
      by_cases h1 : Nat.beq e i = true
      · rw [h1]
        rw [Nat.beq_eq] at h1
        have : Nat.beq d i = false := by rw [← Bool.not_eq_true, Nat.beq_eq, ← h1]; exact hde
        rw [this]; rfl
      · simp only [Bool.not_eq_true] at h1; rw [h1]; rfl

theorem opA_mono {ops : List Oper} {i : Nat} {o : Oper} (ho : ops[i]? = some o) (hs : stableOp o.op = true) {K K' : (Nat → SV) → Heap → Prop} {T : Nat → SV} (hk : ∀ T, K T h → K' T h) (hh : opA P N ops i K T h) : opA P N ops i K' T h := by
  unfold opA at hh ⊢
  simp only [ho, hs, cond_true] at hh ⊢
  obtain ⟨v, hy, hn⟩ := hh
  exact ⟨v, hy, hk _ hn⟩

theorem opA_put {ops : List Oper} {j : Nat} {oi oj : Oper} {v : SV} (hj : ops[j]? = some oj) (hap : oi.apart ops.toArray oj = true) (hsi : stableOp oi.op = true) (hsj : stableOp oj.op = true)
    {K : (Nat → SV) → Heap → Prop} {T : Nat → SV} (hy : YA P N ops oi T h v) (hh : opA P N ops j K (putF T oi.dst v) h) :
    opA P N ops j (fun T' h' => h' = h ∧ YA P N ops oi T' h v ∧ K (putF T' oi.dst v) h) T h := by
  obtain ⟨h1, h2, h3⟩ := Oper.apart_spec hap
  unfold opA at hh ⊢
  simp only [hj, hsj, cond_true] at hh ⊢
  obtain ⟨u, hu, hn⟩ := hh
  exact ⟨u, (YA_putF hsj (fun t ht => h1 t ht)).1 hu, trivial, (YA_putF hsi (fun t ht => h3 t ht)).2 hy, by rw [← putF_comm T v u h2]; exact hn⟩

theorem anyA_first {ops : List Oper} {K : (Nat → SV) → Heap → Prop} {i : Nat} {oi : Oper} {v : SV} (hi : ops[i]? = some oi) (hsi : stableOp oi.op = true) :
    ∀ (fuel : Nat) (listed : Array Bool) (T : Nat → SV),
      (∀ j oj, ops[j]? = some oj → j ≠ i → listed.getD j true = false → (∀ e ∈ oj.after, Region.binds .any e = true → e.on ≠ i) → oi.apart ops.toArray oj = true ∧ stableOp oj.op = true) →
      i ∈ Region.ready .any ops.toArray listed → YA P N ops oi T h v →
      anyA P N ops K fuel (listed.setIfInBounds i true) (putF T oi.dst v) h → anyA P N ops K (fuel + 1) listed T h := by
  have use : ∀ {K' : (Nat → SV) → Heap → Prop} {T : Nat → SV}, YA P N ops oi T h v → K' (putF T oi.dst v) h → opA P N ops i K' T h := fun hy hk => by
    unfold opA; simp only [hi, hsi, cond_true]; exact ⟨v, hy, hk⟩
  intro fuel
  induction fuel with
  | zero =>
    intro listed T _ hr hy H
    refine ⟨fun h => (by rw [h] at hr; cases hr), fun j hj => ?_⟩
    by_cases hji : j = i
    · subst hji; exact use hy H
    · have := ready_mono hj hji
      rw [H.1] at this
      cases this
  | succ fuel ih =>
    intro listed T hfree hr hy H
    refine ⟨fun h => (by rw [h] at hr; cases hr), fun j hj => ?_⟩
    by_cases hji : j = i
    · subst hji; exact use hy H
    · have h1 := H.2 j (ready_mono hj hji)
      obtain ⟨hjun, oj, hoj, hall⟩ := mem_ready.1 hj
      rw [List.getElem?_toArray] at hoj
      have hnot : ∀ e ∈ oj.after, Region.binds .any e = true → e.on ≠ i := fun e he hb heq => by
        have h1 := hall e he hb
        have h0 := (mem_ready.1 hr).1
        rw [heq] at h1
        rcases Nat.lt_or_ge i listed.size with h' | h'
        · simp [h'] at h0 h1; rw [h0] at h1; cases h1
        · simp [Array.getElem?_eq_none h'] at h1
      obtain ⟨hap, hsj⟩ := hfree j oj hoj hji hjun hnot
      have h2 := opA_put hoj hap hsi hsj hy h1
      have hfree' : ∀ k ok, ops[k]? = some ok → k ≠ i → (listed.setIfInBounds j true).getD k true = false →
          (∀ e ∈ ok.after, Region.binds .any e = true → e.on ≠ i) → oi.apart ops.toArray ok = true ∧ stableOp ok.op = true := fun k ok hk hki hun hno => by
        refine hfree k ok hk hki ?_ hno
        by_cases hjk : j = k
        · subst hjk; exact hjun
        · rw [getD_set_ne true hjk] at hun; exact hun
      refine opA_mono hoj hsj (fun T' ⟨_, h3, h4⟩ => ih (listed.setIfInBounds j true) T' hfree' (ready_mono hr (Ne.symm hji)) h3 ?_) h2
      rw [Array.setIfInBounds_comm _ _ hji]
      exact h4

/-! ### the order of the text -/

def frees (ops : List Oper) (listed : Array Bool) (k : Nat) (ok : Oper) : Bool :=
  (List.range ops.length).all fun j => Nat.beq j k || listed.getD j true || (match ops[j]? with
    | some oj => (oj.after.any fun e => Region.binds .any e && Nat.beq e.on k) || (ok.apart ops.toArray oj && stableOp oj.op)
    | none => true)

def lexAt (ops : List Oper) : Nat → Nat → Array Bool → Bool
  | 0, _, listed => (Region.ready .any ops.toArray listed).isEmpty
  | f + 1, k, listed => (match ops[k]? with
      | some ok => bif stableOp ok.op then (Region.ready .any ops.toArray listed).contains k && frees ops listed k ok else (Region.ready .any ops.toArray listed) == [k]
      | none => false) && lexAt ops f (k + 1) (listed.setIfInBounds k true)

/-- May the region be walked in the order of its text? -/
def lexOk (ops : List Oper) : Bool := lexAt ops ops.length 0 (Array.replicate ops.length false)

theorem frees_spec {ops : List Oper} {listed : Array Bool} {k : Nat} {ok : Oper} (hf : frees ops listed k ok = true) :
    ∀ j oj, ops[j]? = some oj → j ≠ k → listed.getD j true = false → (∀ e ∈ oj.after, Region.binds .any e = true → e.on ≠ k) → ok.apart ops.toArray oj = true ∧ stableOp oj.op = true := by
  intro j oj hj hjk hun hno
  unfold frees at hf
  have hlt : j < ops.length := (List.getElem?_eq_some_iff.1 hj).1
  have h1 := List.all_eq_true.1 hf j (List.mem_range.2 hlt)
  have hb : Nat.beq j k = false := by rw [← Bool.not_eq_true, Nat.beq_eq]; exact hjk
  simp only [hb, hun, hj, Bool.false_or] at h1
  rw [Bool.or_eq_true] at h1
  rcases h1 with h1 | h1
  · rw [Array.any_eq_true'] at h1
    obtain ⟨e, he, hbe⟩ := h1
    rw [Bool.and_eq_true, Nat.beq_eq] at hbe
    exact absurd hbe.2 (hno e he hbe.1)
  · rwa [Bool.and_eq_true] at h1

theorem sstep_of {ops : List Oper} {o : Oper} (hs : stableOp o.op = true) {K : St → Prop} {S : St}
    (hg : gstep ops N o.guard o.dst (stepD P N o K) K S) : ∃ (S1 : St) (v : SV), look S1.t = look S.t ∧ S1.h = S.h ∧ YA P N ops o (look S.t) S.h v ∧ K (S1.put o.dst v) := by
  have st : ∀ S1 : St, look S1.t = look S.t → S1.h = S.h → Wtd ops o.guard (look S.t) true → stepD P N o K S1 → ∃ v, YA P N ops o (look S.t) S.h v ∧ K (S1.put o.dst v) := by
    intro S1 e1 e2 hw hd
    unfold stepD at hd
    rw [hs] at hd
    simp only [cond_true] at hd
    obtain ⟨hdst, hd⟩ := hd
    unfold resD at hd
    rw [ev_look, e1, e2] at hd
    split at hd
    · rename_i pre v hv
      exact ⟨v, ⟨hdst, .inl ⟨hw, .inl ⟨pre, hv, hd.1⟩⟩⟩, hd.2⟩
    · exact hd.elim
    · unfold effD at hd
      split at hd
      · rename_i f args ts hop
        unfold pcallK at hd
        split at hd
        · rename_i g first captured hf
          obtain ⟨r, hc, hK⟩ := hd
          rw [ev_look, e1] at hf hc
          exact ⟨r, ⟨hdst, .inl ⟨hw, .inr ⟨f, args, ts, g, first, captured, hop, hf, hc⟩⟩⟩, hK⟩
        · exact hd.elim
      · exact hd.elim
  unfold gstep at hg
  split at hg
  · rename_i hgd
    obtain ⟨v, h1, h2⟩ := st S rfl rfl (by rw [hgd]; rfl) hg
    exact ⟨S, v, rfl, rfl, h1, h2⟩
  · rename_i j want hgd
    unfold guardK at hg
    split at hg
    · exact hg.elim
    · rename_i t ht
      unfold guardB at hg
      split at hg
      · rename_i b hb
        have same : look (S.put (some t) (.sc (.bool b))).t = look S.t := by
          rw [look_put]
          funext i
          simp only [putF]
          by_cases hi : Nat.beq t i = true
          · rw [hi]; rw [Nat.beq_eq] at hi; subst hi; exact hb.symm
          · simp only [Bool.not_eq_true] at hi; rw [hi]; rfl
        have yes : Wtd ops o.guard (look S.t) (b == want) := by rw [hgd]; exact ⟨t, ht, .inl ⟨b, hb, rfl⟩⟩
        cases b
        · simp only [Bool.false_eq_true, if_false] at hg
          cases want
          · obtain ⟨v, h1, h2⟩ := st _ same (h_put _ _ _) yes hg
            exact ⟨_, v, same, h_put _ _ _, h1, h2⟩
          · exact ⟨_, .sc undef, same, h_put _ _ _, ⟨hg.1, .inr ⟨yes, rfl⟩⟩, hg.2⟩
        · simp only [if_true] at hg
          cases want
          · exact ⟨_, .sc undef, same, h_put _ _ _, ⟨hg.1, .inr ⟨yes, rfl⟩⟩, hg.2⟩
          · obtain ⟨v, h1, h2⟩ := st _ same (h_put _ _ _) yes hg
            exact ⟨_, v, same, h_put _ _ _, h1, h2⟩
      · rename_i c hc
        have no : Wtd ops o.guard (look S.t) false := by rw [hgd]; exact ⟨t, ht, .inr ⟨c, hc, rfl⟩⟩
        exact ⟨S, .sc undef, rfl, rfl, ⟨hg.1, .inr ⟨no, rfl⟩⟩, hg.2⟩
      · exact hg.elim

/-- Nothing is asked of a state but what its temporaries hold. -/
def LookOnly (K : St → Prop) : Prop := ∀ S S' : St, look S.t = look S'.t → S.h = S'.h → K S → K S'

theorem gstep_mono {ops : List Oper} {g : Option (Nat × Bool)} {dst : Option Tmp} {A A' K K' : St → Prop} {S : St} (hA : ∀ S, A S → A' S) (hK : ∀ S, K S → K' S) (h : gstep ops N g dst A K S) : gstep ops N g dst A' K' S := by
  cases g with
  | none => exact hA _ h
  | some jw =>
    obtain ⟨j, want⟩ := jw
    simp only [gstep] at h ⊢
    cases ht : gdst ops j with
    | none => rw [ht] at h; exact h.elim
    | some t =>
      rw [ht] at h
      simp only [guardK] at h ⊢
      generalize look S.t t = x at *
      unfold guardB at *
      split at h
      · rename_i b
        cases b
        · simp only [Bool.false_eq_true, if_false] at h ⊢
          cases want
          · exact hA _ h
          · exact ⟨h.1, hK _ h.2⟩
        · simp only [if_true] at h ⊢
          cases want
          · exact ⟨h.1, hK _ h.2⟩
          · exact hA _ h
      · exact ⟨h.1, hK _ h.2⟩
      · exact h.elim

theorem stepK_mono {o : Oper} {K K' : St → Prop} {S : St} (hK : ∀ S, K S → K' S) (h : stepK P N o K S) : stepK P N o K' S := by
  obtain ⟨hd, h⟩ := h
  refine ⟨hd, ?_⟩
  unfold resK at *
  split at h
  · exact ⟨h.1, hK _ h.2⟩
  · exact ⟨h.1, fun b hb => hK _ (h.2 b hb)⟩
  · unfold effK at *
    split at h
    · unfold storeK at *
      split at h
      · split at h
        · exact ⟨h.1, h.2.1, hK _ h.2.2⟩
        · exact h
      · exact h
    · unfold callK at *
      split at h
      · exact Call.mono h (fun _ _ x => hK _ x)
      · exact h
    · rename_i s x st xt _
      cases hN : notInt P xt with
      | true =>
        rw [hN] at h
        simp only [cond_true] at h ⊢
        unfold appK at *
        split at h
        · obtain ⟨h1, h2, h3, h4, h5, h6⟩ := h
          refine ⟨h1, h2, h3, h4, h5, ?_⟩
          split at h6
          · exact ⟨h6.1, h6.2.1, fun x => hK _ (h6.2.2.1 x), fun x b hb => hK _ (h6.2.2.2 x b hb)⟩
          · unfold appOsK at *
            split at h6
            · obtain ⟨g1, g2, g3, g4, g5, g6⟩ := h6
              exact ⟨g1, g2, g3, g4, g5, fun b hb => hK _ (g6 b hb)⟩
            · exact h6
          · exact h6
        · exact h
      | false =>
        rw [hN] at h
        simp only [cond_false] at h ⊢
        cases hI : (ik P xt).isSome with
        | true =>
          rw [hI] at h
          simp only [cond_true] at h ⊢
          unfold appZK at *
          split at h
          · obtain ⟨h1, h2, h3, h4, h5, h6⟩ := h
            exact ⟨h1, h2, h3, h4, h5, fun b hb => hK _ (h6 b hb)⟩
          · exact h
        | false =>
          rw [hI] at h
          exact h.elim
    · exact h

theorem anyA_lex {ops : List Oper} {K : St → Prop} : ∀ (l : List Oper) (k : Nat) (listed : Array Bool) (S : St), (∀ j, l[j]? = ops[k + j]?) →
    lexAt ops l.length k listed = true → vcD P N ops l K S → anyA P N ops (fun T h => ∃ S', look S'.t = T ∧ S'.h = h ∧ K S') l.length listed (look S.t) S.h
  | [], _, _, S, _, hB, h => ⟨by simpa [lexAt] using hB, S, rfl, rfl, h⟩
  | o :: l, k, listed, S, hl, hB, h => by
    have h0 : ops[k]? = some o := by simpa using (hl 0).symm
    simp only [List.length_cons, lexAt, h0, Bool.and_eq_true] at hB
    obtain ⟨hr, hB'⟩ := hB
    have hl' : ∀ j, l[j]? = ops[k + 1 + j]? := fun j => by have := hl (j + 1); simpa [Nat.add_assoc, Nat.add_comm 1 j] using this
    by_cases hs : stableOp o.op = true
    · rw [hs] at hr
      simp only [cond_true, Bool.and_eq_true] at hr
      obtain ⟨S1, v, e1, e2, hy, hK⟩ := sstep_of hs h
      refine anyA_first h0 hs l.length listed _ (frees_spec hr.2) (by simpa using hr.1) hy ?_
      have := anyA_lex l (k + 1) _ _ hl' hB' hK
      rw [look_put, h_put, e1, e2] at this
      exact this
    · simp only [Bool.not_eq_true] at hs
      rw [hs] at hr
      simp only [cond_false, beq_iff_eq] at hr
      refine ⟨fun h => (by rw [hr] at h; cases h), fun i hi => ?_⟩
      rw [hr] at hi
      obtain rfl : i = k := by simpa using hi
      unfold opA
      simp only [h0, hs, cond_false]
      refine ⟨S, rfl, rfl, ?_⟩
      unfold vcD at h
      refine gstep_mono (fun S' hS => ?_) (fun S' hS => anyA_lex l (i + 1) _ _ hl' hB' hS) h
      unfold stepD at hS
      rw [hs] at hS
      exact stepK_mono (fun S'' hS => anyA_lex l (i + 1) _ _ hl' hB' hS) hS

/-- **A region that draws its order, walked in the order of its text.** -/
theorem vcD_sound {ops : List Oper} {id : Nat} {Q : Exit → Act → World → Prop} {K : St → Prop} (hm : P.follows .mixedOrders = true) (hB : lexOk ops = true) (hK : ∀ S a w, K S → Rel M w0 D N S a w → Q .normal a w)
    {S : St} {a : Act} (hr : Rel M w0 D N S a w) (h : vcD P N ops ops K S) : (Code.region id ops.toArray true).wp P Q a w := by
  refine wp_region_any hm ?_
  have hr' : Rel M w0 D N S a (drw w) := ⟨hr.defers, hr.n, fun i => (hr.t i).mono (env_drw _ _), hr.own.drw, hr.frm.trans (frm_drw (fun _ => False) w) (fun _ _ x => x.elim), hr.new⟩
  have := anyA_lex ops 0 (Array.replicate ops.length false) S (by simp) hB h
  have := anyA_sound (Q := Q) (K := fun T h => ∃ S', look S'.t = T ∧ S'.h = h ∧ K S') (fun S a w hx hr => by
    obtain ⟨S', e1, e2, hS⟩ := hx
    exact hK S' a w hS (hr.look_eq e1 e2)) _ _ S a _ hr' this
  simpa [drw] using this

end
end Go.Ab
/- Code, loops, the beginning and the end of a function. -/
set_option linter.unusedVariables false
namespace Go.Ab
open Go.RowKit

/-- From the state S the code comes to an exit and a state of which Q holds. -/
def SW (P : Program) (N : Nat) (c : Code) (Q : Exit → St → Prop) (S : St) : Prop :=
  ∀ (M : Nat → Prop) (w0 : World) (D : Nat → Prop) (a : Act) (w : World), Rel M w0 D N S a w → c.wp P (fun e a' w' => ∃ S', Q e S' ∧ Rel M w0 D N S' a' w') a w

/-- What is said in S' is no more than what is said in S. -/
def St.le (S S' : St) : Prop := ∀ (M : Nat → Prop) (w0 : World) (D : Nat → Prop) (N : Nat) (a : Act) (w : World), Rel M w0 D N S a w → Rel M w0 D N S' a w

theorem St.le.refl (S : St) : S.le S := fun _ _ _ _ _ _ h => h
theorem St.le.trans {S S' S'' : St} (h : S.le S') (h' : S'.le S'') : S.le S'' := fun M w0 D N a w r => h' M w0 D N a w (h M w0 D N a w r)

def thn (K : St → Prop) (Q : Exit → St → Prop) : Exit → St → Prop
  | .normal, S => K S
  | e, S => Q e S

def inB (id : Nat) (Q : Exit → St → Prop) : Exit → St → Prop
  | .exit i, S => bif Nat.beq i id then Q .normal S else Q (.exit i) S
  | e, S => Q e S

section
variable {P : Program} {N : Nat} {Q : Exit → St → Prop} {S : St}

theorem SW.mono {c : Code} {Q' : Exit → St → Prop} (h : SW P N c Q S) (hq : ∀ e S, Q e S → Q' e S) : SW P N c Q' S :=
  fun M w0 D a w hr => wp_mono (h M w0 D a w hr) fun e a' w' ⟨S', h1, h2⟩ => ⟨S', hq _ _ h1, h2⟩

theorem SW.le {c : Code} {S' : St} (hl : S.le S') (h : SW P N c Q S') : SW P N c Q S := fun M w0 D a w hr => h M w0 D a w (hl M w0 D N a w hr)

theorem SW.seq {x y : Code} (h : SW P N x (thn (SW P N y Q) Q) S) : SW P N (.seq x y) Q S := fun M w0 D a w hr => by
  refine wp_seq (wp_mono (h M w0 D a w hr) fun e a' w' ⟨S', h1, h2⟩ => ?_)
  cases e with
  | normal => exact h1 M w0 D a' w' h2
  | exit i => exact ⟨S', h1, h2⟩
  | goto l => exact ⟨S', h1, h2⟩
  | ret => exact ⟨S', h1, h2⟩
  | panic c => exact ⟨S', h1, h2⟩
  | outgrown => exact ⟨S', h1, h2⟩

theorem SW.seq_k {x y : Code} (h : ∀ K : St → Prop, (∀ S, SW P N y Q S → K S) → SW P N x (thn K Q) S) : SW P N (.seq x y) Q S := SW.seq (h _ fun _ h => h)

theorem SW.block {id : Nat} {c : Code} (h : SW P N c (inB id Q) S) : SW P N (.block id c) Q S := fun M w0 D a w hr => by
  refine wp_block (wp_mono (h M w0 D a w hr) fun e a' w' ⟨S', h1, h2⟩ => ?_)
  cases e with
  | exit i =>
    simp only [inB] at h1
    show if i = id then _ else _
    by_cases hi : i = id
    · rw [if_pos hi]
      rw [show Nat.beq i id = true by rw [Nat.beq_eq]; exact hi] at h1
      exact ⟨S', h1, h2⟩
    · rw [if_neg hi]
      rw [show Nat.beq i id = false by rw [← Bool.not_eq_true, Nat.beq_eq]; exact hi] at h1
      exact ⟨S', h1, h2⟩
  | normal => exact ⟨S', h1, h2⟩
  | goto l => exact ⟨S', h1, h2⟩
  | ret => exact ⟨S', h1, h2⟩
  | panic c => exact ⟨S', h1, h2⟩
  | outgrown => exact ⟨S', h1, h2⟩

theorem SW.skip (h : Q .normal S) : SW P N .skip Q S := fun _ _ _ _ _ hr => wp_skip ⟨S, h, hr⟩
theorem SW.exit {id : Nat} (h : Q (.exit id) S) : SW P N (.exit id) Q S := fun _ _ _ _ _ hr => wp_exit ⟨S, h, hr⟩
theorem SW.ret (h : Q .ret S) : SW P N .ret Q S := fun _ _ _ _ _ hr => wp_ret ⟨S, h, hr⟩

/-- A condition. -/
def condK (x : SV) (A B : Prop) : Prop := match x with
  | .sc (.bool b) => if b = true then A else B
  | _ => False

theorem SW.cond {c : Operand} {x y : Code} (h : condK (S.ev c) (SW P N x Q S) (SW P N y Q S)) : SW P N (.cond c x y) Q S := fun M w0 D a w hr => by
  unfold condK at h
  split at h
  · rename_i b hb
    have hc := hr.ev c
    rw [hb] at hc
    generalize hv : a.eval c = v at hc
    cases hc
    cases b
    · simp only [Bool.false_eq_true, if_false] at h
      exact wp_cond_false hv (h M w0 D a w hr)
    · simp only [if_true] at h
      exact wp_cond_true hv (h M w0 D a w hr)
  · exact h.elim

theorem SW.region {id : Nat} {l : List Oper} (h : vcOps P N l l (Q .normal) S) : SW P N (.region id l.toArray false) Q S := fun M w0 D a w hr => by
  refine wp_region_list ?_
  simpa using vcOps_sound (K := Q .normal) (Q := fun e a' w' => ∃ S', Q e S' ∧ Rel M w0 D N S' a' w') (fun S a w h hr => ⟨S, h, hr⟩) l S a w h hr

theorem SW.regionD {id : Nat} {l : List Oper} (hm : P.follows .mixedOrders = true) (hB : lexOk l = true) (h : vcD P N l l (Q .normal) S) : SW P N (.region id l.toArray true) Q S := fun M w0 D a w hr =>
  vcD_sound (K := Q .normal) hm hB (fun S a w h hr => ⟨S, h, hr⟩) hr h

/-- **A loop**: I n holds at the head of a round, n sinks. -/
theorem SW.loop {c : Code} (I : Nat → St → Prop) (n : Nat) (h0 : I n S) (round : ∀ n S, I n S → SW P N c (thn (fun S' => ∃ m S'', m < n ∧ S'.le S'' ∧ I m S'') Q) S) : SW P N (.loop c) Q S := fun M w0 D a w hr => by
  let J : Act → World → Prop := fun a w => ∃ n S, I n S ∧ Rel M w0 D N S a w
  have least : ∀ a w, J a w → ∃ n, (∃ S, I n S ∧ Rel M w0 D N S a w) ∧ ∀ m, (∃ S, I m S ∧ Rel M w0 D N S a w) → n ≤ m := fun a w ⟨n, hn⟩ => by
    induction n using Nat.strongRecOn with
    | _ n ih =>
      by_cases hl : ∃ m, m < n ∧ ∃ S, I m S ∧ Rel M w0 D N S a w
      · obtain ⟨m, hmn, hm⟩ := hl
        exact ih m hmn hm
      · exact ⟨n, hn, fun m hm => Nat.le_of_not_lt fun hlt => hl ⟨m, hlt, hm⟩⟩
  have : ∀ a w, ∃ n, J a w → (∃ S, I n S ∧ Rel M w0 D N S a w) ∧ ∀ m, (∃ S, I m S ∧ Rel M w0 D N S a w) → n ≤ m := fun a w => by
    by_cases hJ : J a w
    · obtain ⟨n, hn⟩ := least a w hJ; exact ⟨n, fun _ => hn⟩
    · exact ⟨0, fun x => absurd x hJ⟩
  obtain ⟨μ, hμ⟩ := Classical.axiomOfChoice (r := fun (a : Act) (f : World → Nat) => ∀ w, J a w → (∃ S, I (f w) S ∧ Rel M w0 D N S a w) ∧ ∀ m, (∃ S, I m S ∧ Rel M w0 D N S a w) → f w ≤ m)
    (fun a => ⟨fun w => (Classical.choose (this a w)), fun w => Classical.choose_spec (this a w)⟩)
  refine wp_loop J μ ⟨n, S, h0, hr⟩ fun a w hJ => ?_
  obtain ⟨⟨S1, hI, hr1⟩, _⟩ := hμ a w hJ
  refine wp_mono (round _ S1 hI M w0 D a w hr1) fun e a' w' ⟨S', h1, h2⟩ => ?_
  cases e with
  | normal =>
    obtain ⟨m, S'', hm, hle, hI'⟩ := h1
    have hr' := hle M w0 D N a' w' h2
    have hJ' : J a' w' := ⟨m, S'', hI', hr'⟩
    exact ⟨hJ', Nat.lt_of_le_of_lt ((hμ a' w' hJ').2 m ⟨S'', hI', hr'⟩) hm⟩
  | exit i => exact ⟨S', h1, h2⟩
  | goto l => exact ⟨S', h1, h2⟩
  | ret => exact ⟨S', h1, h2⟩
  | panic c => exact ⟨S', h1, h2⟩
  | outgrown => exact ⟨S', h1, h2⟩

/-! ### the beginning and the end -/

def argT (i : Nat) (l : List SV) : List (Nat × SV) := match l with
  | [] => []
  | x :: r => (i, x) :: argT (i + 1) r

def resV (P : Program) (S : St) (r : ResultVar) : VRes := match r with
  | .tmp t => .ok True (look S.t t)
  | .cell x t => loadSV (tk P t) (look S.t x) S.h

def resL (P : Program) (S : St) (rs : List ResultVar) (K : List SV → Prop) : Prop := match rs with
  | [] => K []
  | r :: rest => match resV P S r with
    | .ok pre v => pre ∧ resL P S rest (fun vs => K (v :: vs))
    | _ => False

/-- What a function hands back. -/
def tupOf (vs : List SV) : SV := match vs with
  | [v] => v
  | vs => .tup vs

def retQ (P : Program) (rs : List ResultVar) (Q : SV → Heap → Prop) (e : Exit) (S : St) : Prop := match e with
  | .normal => ∃ S', S.le S' ∧ resL P S' rs (fun vs => Q (tupOf vs) S'.h)
  | .ret => ∃ S', S.le S' ∧ resL P S' rs (fun vs => Q (tupOf vs) S'.h)
  | _ => False

theorem look_argT (l : List SV) : ∀ (i j : Nat), i ≤ j → look (argT i l) j = l.getD (j - i) .any := by
  induction l with
  | nil => intro i j _; simp [argT, look]
  | cons x r ih =>
    intro i j hij
    simp only [argT, look]
    by_cases h : i = j
    · subst h
      rw [show Nat.beq i i = true by rw [Nat.beq_eq]]
      simp
    · rw [show Nat.beq i j = false by rw [← Bool.not_eq_true, Nat.beq_eq]; exact h]
      simp only [cond_false]
      rw [ih (i + 1) j (by omega), show j - i = (j - (i + 1)) + 1 by omega]
      simp

def resOne (tmps : Array Value) (r : ResultVar) : Sem Value := match r with
  | .tmp t => pure (tmps.getD t undef)
  | .cell x t => do loadVar t (← asAddr (tmps.getD x undef))

def unl (us : List Value) : Value := match us with
  | [u] => u
  | us => .tuple us.toArray

theorem results_eq (fn : Func) (tmps : Array Value) : results fn tmps = (do let vs ← fn.results.mapM (resOne tmps); pure (if h : vs.size = 1 then vs[0] else .tuple vs)) := rfl

theorem resL_sound {M : Nat → Prop} {w0 : World} {D : Nat → Prop} {a : Act} {w : World} (hr : Rel M w0 D N S a w) : ∀ (rs : List ResultVar) (K : List SV → Prop), resL P S rs K →
    ∃ (us : List Value) (vs : List SV), (rs.mapM (resOne a.tmps)).run P w = .ok us w ∧
      us.length = vs.length ∧ (∀ i, i < vs.length → Rep (envOf (hid M S.h) w) (us.getD i undef) (vs.getD i .any)) ∧ K vs
  | [], K, h => ⟨[], [], by simp, rfl, fun i hi => absurd hi (by simp), h⟩
  | r :: rest, K, h => by
    unfold resL at h
    split at h
    · rename_i pre v hv
      obtain ⟨us, vs, h1, h2, h3, h4⟩ := resL_sound hr rest _ h.2
      have one : ∃ u, (resOne a.tmps r).run P w = .ok u w ∧ Rep (envOf (hid M S.h) w) u v := by
        cases r with
        | tmp t => cases hv; exact ⟨_, rfl, hr.t t⟩
        | cell x t =>
          obtain ⟨u, hu, hrep⟩ := load_sound hr.own (hr.t x) hv h.1
          refine ⟨u, ?_, hrep⟩
          have hp : ∃ ad, a.tmps.getD x undef = .pointer (some ad) := by
            have hx := hr.t x
            simp only [resV] at hv
            unfold loadSV at hv
            split at hv
            all_goals first | (cases hv; done) | skip
            all_goals
              rename_i hxv
              rw [hxv] at hx
              generalize a.tmps.getD x undef = xv at hx
              cases hx
              exact ⟨_, rfl⟩
          obtain ⟨ad, had⟩ := hp
          rw [had] at hu
          show ((do loadVar t (← asAddr (a.tmps.getD x undef))) : Sem Value).run P w = .ok u w
          rw [had]
          simpa [Instr.loadAt, Instr.sureAddr, asAddr] using hu
      obtain ⟨u, hu, hrep⟩ := one
      refine ⟨u :: us, v :: vs, ?_, by simp [h2], fun i hi => ?_, h4⟩
      · rw [List.mapM_cons]
        simp only [Sem.run_bind, hu, Result.andThen_ok, h1, Sem.run_pure]
      · cases i with
        | zero => simpa using hrep
        | succ i => simpa using h3 i (by simpa using hi)
    · exact h.elim

theorem run_results {fn : Func} {tmps : Array Value} {w : World} {us : List Value} (h : (fn.results.toList.mapM (resOne tmps)).run P w = .ok us w) :
    (results fn tmps).run P w = .ok (unl us) w := by
  rw [results_eq, Array.mapM_eq_mapM_toList]
  simp only [Sem.run_bind, Sem.run_map, h, Result.andThen_ok, Sem.run_pure]
  congr 1
  match us with
  | [] => rfl
  | [u] => rfl
  | u :: v :: r => rfl

theorem tup_rep {E : Env} {us : List Value} {vs : List SV} (hl : us.length = vs.length) (hr : ∀ i, i < vs.length → Rep E (us.getD i undef) (vs.getD i .any)) :
    Rep E (unl us) (tupOf vs) := by
  match us, vs, hl with
  | [], [], _ => exact .tup _ _ rfl (fun i hi => absurd hi (by simp))
  | [u], [v], _ => exact hr 0 (by simp)
  | u :: u' :: us, v :: v' :: vs, hl =>
    refine .tup _ _ (by simpa using hl) (fun i hi => ?_)
    have := hr i hi
    rw [getD_toList]
    exact this

/-- **A function's contract, out of its body.** -/
theorem Call.enter {f : FuncId} {fn : Func} {c : Code} {args : List SV} {h : Heap} {Q : SV → Heap → Prop} (hf : P.funcs[f]? = some fn) (hb : fn.body = some c) (hn : (fn.name == "runtime.NumGoroutine") = false)
    (hl : args.length ≤ fn.ntmps) (hsw : SW P fn.ntmps c (retQ P fn.results.toList Q) ⟨argT 0 args, h⟩) : Call P f args h Q := by
  refine ⟨⟨fn, hf, by rw [hb]; rfl, hn⟩, fun M w vs own hr => ?_⟩
  refine calls_of_wp hf hb ?_
  have hrel : Rel M w h.has fn.ntmps ⟨argT 0 args, h⟩ { tmps := vs ++ Array.replicate (fn.ntmps - vs.size) undef, defers := [] } w := by
    refine ⟨rfl, by simp [hr.1]; omega, fun i => ?_, own, Frm.refl _ _, fun b hb _ => hb⟩
    rw [look_argT args 0 i (Nat.zero_le _), Nat.sub_zero]
    by_cases hi : i < args.length
    · have := hr.2 i hi
      have hv : i < vs.size := by rw [hr.1]; exact hi
      simpa [Array.getElem?_append_left hv] using this
    · rw [List.getD_eq_getElem?_getD, List.getElem?_eq_none (by omega)]
      exact .any _
  refine wp_mono (hsw M w h.has _ w hrel) fun e a' w' ⟨S', h1, h2⟩ => ?_
  have fin : (∃ S'', S'.le S'' ∧ resL P S'' fn.results.toList (fun vs => Q (tupOf vs) S''.h)) → a'.defers = [] ∧ ∃ v, (results fn a'.tmps).run P w' = .ok v w' ∧
      ∃ v' r h', Ending.returned v = .returned v' ∧ Q r h' ∧ Rep (envOf (hid M h') w') v' r ∧ Owns M h' w' ∧ Frm h.has w w' ∧ ∀ b, h'.has b → b < w.heap.size → h.has b := by
    rintro ⟨S'', hle, hres⟩
    have hr'' := hle _ _ _ _ _ _ h2
    obtain ⟨us, vs', hrun, hlen, hrep, hK⟩ := resL_sound hr'' _ _ hres
    exact ⟨hr''.defers, _, run_results hrun, _, _, _, rfl, hK, tup_rep hlen hrep, hr''.own, hr''.frm, hr''.new⟩
  cases e with
  | normal => exact fin h1
  | ret => exact fin h1
  | exit i => exact h1.elim
  | goto l => exact h1.elim
  | panic c => exact h1.elim
  | outgrown => exact h1.elim

/-- What a law's row asks of the walk. -/
theorem Call.law {f : FuncId} {args : List SV} {r : Value} (hc : PCall P f args (.sc r)) {w : World} {vs : Array Value} (hr : Reps (envOf (fun _ => False) w) vs args) :
    Calls P f vs w fun e w' => e = .returned r ∧ Below w.heap.size w w' := by
  have hh : hid (fun _ => False) [] = fun _ => False := by
    funext b
    simp only [hid]
    exact propext ⟨fun x => x.elim id (fun ⟨k, hk⟩ => by cases hk), fun x => x.elim⟩
  refine (hc.2 (fun _ => False) w vs ⟨by simp, fun b ⟨k, hk⟩ => (by cases hk), fun b x => x.elim, fun b k hk => (by cases hk)⟩ (by rw [hh]; exact hr)).mono fun e w' ⟨v, r', h', he, ⟨h1, h2⟩, hv, _, frm, _⟩ => ?_
  subst h1 h2
  cases hv
  exact ⟨he, frm.below (fun b _ ⟨k, hk⟩ => by cases hk)⟩

end
end Go.Ab
/- How the steps are computed: one rule for each form of operation. -/
namespace Go.Ab
open Go.RowKit

/-! ### data as values -/
abbrev I64 (n : Int) : SV := .sc (.int .i64 n)
abbrev SB (b : Bool) : SV := .sc (.bool b)
/-- A slice of numbers that is only read. -/
def ints (k : IntKind) (l : List Int) : SV := .fl l.length 1 (fun i => [.sc (.int k (l.getD i 0))])
/-- A slice of Bools that is only read. -/
def bools (l : List Bool) : SV := .fl l.length 1 (fun i => [.sc (.bool (l.getD i false))])
/-- A slice of slices of numbers that is only read. -/
def mat (k : IntKind) (m : List (List Int)) : SV := .fl m.length 1 (fun i => [ints k (m.getD i [])])

section
variable {P : Program} {N : Nat} {K : St → Prop} {S : St} {ops r : List Oper} {o : Oper} {d : Option Tmp} {ty : TypeId} {ps : String} {af : Array Edge} {g : Option (Nat × Bool)}

theorem vcOps_nil : vcOps P N ops [] K S = K S := rfl
theorem vcOps_plain {op : Op} : vcOps P N ops (⟨d, op, ty, ps, af, none⟩ :: r) K S = stepK P N ⟨d, op, ty, ps, af, none⟩ (vcOps P N ops r K) S := rfl
theorem vcOps_guard {op : Op} {j : Nat} {want : Bool} : vcOps P N ops (⟨d, op, ty, ps, af, some (j, want)⟩ :: r) K S =
    guardK (gdst ops j) want S (stepK P N ⟨d, op, ty, ps, af, some (j, want)⟩ (vcOps P N ops r K)) (fun S => dstOk N d ∧ vcOps P N ops r K (S.put d (.sc undef))) := rfl
theorem vcD_nil : vcD P N ops [] K S = K S := rfl
theorem vcD_plain {op : Op} : vcD P N ops (⟨d, op, ty, ps, af, none⟩ :: r) K S = stepD P N ⟨d, op, ty, ps, af, none⟩ (vcD P N ops r K) S := rfl
theorem vcD_guard {op : Op} {j : Nat} {want : Bool} : vcD P N ops (⟨d, op, ty, ps, af, some (j, want)⟩ :: r) K S =
    guardK (gdst ops j) want S (stepD P N ⟨d, op, ty, ps, af, some (j, want)⟩ (vcD P N ops r K)) (fun S => dstOk N d ∧ vcD P N ops r K (S.put d (.sc undef))) := rfl

theorem guardK_some {t : Tmp} {want : Bool} {A B : St → Prop} : guardK (some t) want S A B = guardB (look S.t t) t want S A B := rfl
theorem guardB_yes {b : Bool} {t : Tmp} {A B : St → Prop} : guardB (.sc (.bool b)) t true S A B = if b = true then A (S.put (some t) (.sc (.bool true))) else B (S.put (some t) (.sc (.bool false))) := rfl
theorem guardB_no {b : Bool} {t : Tmp} {A B : St → Prop} : guardB (.sc (.bool b)) t false S A B = if b = true then B (S.put (some t) (.sc (.bool true))) else A (S.put (some t) (.sc (.bool false))) := rfl

theorem guardB_undef {want : Bool} {t : Tmp} {A B : St → Prop} : guardB (.sc undef) t want S A B = B S := rfl
theorem gdst_zero {o : Oper} : gdst (o :: r) 0 = o.dst := rfl
theorem gdst_succ {o : Oper} {j : Nat} : gdst (o :: r) (j + 1) = gdst r j := by simp [gdst]

/-- An operation's way of standing: the common part. -/
theorem sK {op : Op} {R : VRes} (h : valOp P op S.ev S.h = R) : stepK P N ⟨d, op, ty, ps, af, g⟩ K S = (dstOk N d ∧ resK R d (effK P op d K S) K S) := by rw [← h]; rfl
theorem sD {op : Op} {R : VRes} (hs : stableOp op = true) (h : valOp P op S.ev S.h = R) : stepD P N ⟨d, op, ty, ps, af, g⟩ K S = (dstOk N d ∧ resD R d (effD P op d K S) K S) := by
  rw [← h]; simp only [stepD, hs, cond_true]
theorem sU {op : Op} (hs : stableOp op = false) : stepD P N ⟨d, op, ty, ps, af, g⟩ K S = stepK P N ⟨d, op, ty, ps, af, g⟩ K S := by
  simp only [stepD, hs, cond_false]

theorem stepK_move {x : Operand} : stepK P N ⟨d, .move x, ty, ps, af, g⟩ K S = (dstOk N d ∧ K (S.put d (S.ev x))) := by rw [sK rfl]; simp [valOp, resK]
theorem stepK_assign {x : Operand} : stepK P N ⟨d, .assign x, ty, ps, af, g⟩ K S = (dstOk N d ∧ K (S.put d (S.ev x))) := by rw [sK rfl]; simp [valOp, resK]
theorem stepK_pick {c x y : Operand} : stepK P N ⟨d, .pick c x y, ty, ps, af, g⟩ K S = (dstOk N d ∧ resK (pickSV (S.ev c) (S.ev x) (S.ev y)) d False K S) := by rw [sK rfl]; rfl
theorem stepK_bin {op : BinOp} {t t' : TypeId} {x y : Operand} : stepK P N ⟨d, .binOp op t x y t', ty, ps, af, g⟩ K S = (dstOk N d ∧ resK (binSV P op t (S.ev x) (S.ev y)) d False K S) := by rw [sK rfl]; rfl
theorem stepK_un {op : UnOp} {t : TypeId} {x : Operand} : stepK P N ⟨d, .unOp op t x, ty, ps, af, g⟩ K S = (dstOk N d ∧ resK (unSV op (S.ev x)) d False K S) := by rw [sK rfl]; rfl
theorem stepK_load {t : TypeId} {x : Operand} : stepK P N ⟨d, .load t x, ty, ps, af, g⟩ K S = (dstOk N d ∧ resK (loadSV (tk P t) (S.ev x) S.h) d False K S) := by rw [sK rfl]; rfl
theorem stepK_indexAddr {t : TypeId} {x y : Operand} : stepK P N ⟨d, .indexAddr t x y, ty, ps, af, g⟩ K S = (dstOk N d ∧ resK (indexAddrSV (slk P t) (ark P t) (S.ev x) (S.ev y)) d False K S) := by rw [sK rfl]; rfl
theorem stepK_index {t : TypeId} {x y : Operand} : stepK P N ⟨d, .index t x y, ty, ps, af, g⟩ K S = (dstOk N d ∧ resK (indexSV (isStr P t) (S.ev x) (S.ev y)) d False K S) := by rw [sK rfl]; rfl
theorem stepK_fieldAddr {t : TypeId} {x : Operand} {f : Nat} : stepK P N ⟨d, .fieldAddr t x f, ty, ps, af, g⟩ K S = (dstOk N d ∧ resK (fieldAddrSV (fdk P t f) (S.ev x)) d False K S) := by rw [sK rfl]; rfl
theorem stepK_field {t : TypeId} {x : Operand} {f : Nat} : stepK P N ⟨d, .field t x f, ty, ps, af, g⟩ K S = (dstOk N d ∧ resK (fieldSV (fdk P t f) (S.ev x)) d False K S) := by rw [sK rfl]; rfl
theorem stepK_extract {x : Operand} {i : Nat} : stepK P N ⟨d, .extract x i, ty, ps, af, g⟩ K S = (dstOk N d ∧ resK (tupSV (S.ev x) i) d False K S) := by rw [sK rfl]; rfl
theorem stepK_nilCheck {x : Operand} : stepK P N ⟨d, .nilCheck x, ty, ps, af, g⟩ K S = (dstOk N d ∧ resK (nilSV (S.ev x)) d False K S) := by rw [sK rfl]; rfl
theorem stepK_slice {t : TypeId} {x : Operand} {lo hi mx : Option Operand} : stepK P N ⟨d, .slice t x lo hi mx, ty, ps, af, g⟩ K S = (dstOk N d ∧ resK (sliceSV (isStr P t) (slk P t) (S.ev x) (lo.map S.ev) (hi.map S.ev) (mx.map S.ev)) d False K S) := by rw [sK rfl]; rfl
theorem stepK_convert {s t : TypeId} {x : Operand} : stepK P N ⟨d, .convert s t x, ty, ps, af, g⟩ K S = (dstOk N d ∧ resK (bif (P.underlying s).isSome then convSV (ik P t) (isStr P t) (S.ev x) else .bad) d False K S) := by rw [sK rfl]; rfl
theorem stepK_box {t : TypeId} {x : Operand} : stepK P N ⟨d, .box t x, ty, ps, af, g⟩ K S = (dstOk N d ∧ resK (boxSV (S.ev x)) d False K S) := by rw [sK rfl]; rfl
theorem stepK_alloc {t : TypeId} : stepK P N ⟨d, .alloc t, ty, ps, af, g⟩ K S = (dstOk N d ∧ resK (allocSV (zk P t)) d False K S) := by rw [sK rfl]; rfl
theorem stepK_build {t : TypeId} {xs : Array (Nat × Operand)} : stepK P N ⟨d, .build t xs, ty, ps, af, g⟩ K S = (dstOk N d ∧ resK (buildSV (flk P t) (ark P t) (zk P t) (xs.toList.map fun p => (p.1, S.ev p.2))) d False K S) := by rw [sK rfl]; rfl
theorem stepK_buildSlice {t : TypeId} {n : Nat} {xs : Array (Nat × Operand)} : stepK P N ⟨d, .buildSlice t n xs, ty, ps, af, g⟩ K S = (dstOk N d ∧ resK (buildSliceSV (slk P t) (elemZ P t) n (xs.toList.map fun p => (p.1, S.ev p.2))) d False K S) := by rw [sK rfl]; rfl
theorem stepK_makeSlice {t : TypeId} {x y : Operand} : stepK P N ⟨d, .makeSlice t x y, ty, ps, af, g⟩ K S = (dstOk N d ∧ resK (makeSV (slk P t) (elemZ P t) (S.ev x) (S.ev y)) d False K S) := by rw [sK rfl]; rfl
theorem stepK_makeFunc {f : Fn} {xs ys : Array Operand} : stepK P N ⟨d, .makeFunc f xs ys, ty, ps, af, g⟩ K S = (dstOk N d ∧ K (S.put d (.fn f (xs.toList.map S.ev) (ys.toList.map S.ev)))) := by rw [sK rfl]; simp [valOp, resK]
theorem stepK_len {t : TypeId} {x : Operand} : stepK P N ⟨d, .call ⟨.builtin .len, ⟨[x]⟩, ⟨[t]⟩⟩, ty, ps, af, g⟩ K S = (dstOk N d ∧ resK (lenSV (isStr P t) (slk P t) (ark P t) (S.ev x)) d False K S) := by rw [sK rfl]; rfl
theorem stepK_min {ts : Array TypeId} {x y : Operand} : stepK P N ⟨d, .call ⟨.builtin .min, ⟨[x, y]⟩, ts⟩, ty, ps, af, g⟩ K S = (dstOk N d ∧ resK (minSV (S.ev x) (S.ev y)) d False K S) := by rw [sK rfl]; rfl
theorem stepK_max {ts : Array TypeId} {x y : Operand} : stepK P N ⟨d, .call ⟨.builtin .max, ⟨[x, y]⟩, ts⟩, ty, ps, af, g⟩ K S = (dstOk N d ∧ resK (maxSV (S.ev x) (S.ev y)) d False K S) := by rw [sK rfl]; rfl
theorem stepK_store {t : TypeId} {x y : Operand} : stepK P N ⟨d, .store t x y, ty, ps, af, g⟩ K S = (dstOk N d ∧ storeK (tk P t) (S.ev x) (svCells (S.ev y)) d K S) := by rw [sK rfl]; rfl
theorem stepK_call {f : Operand} {xs : Array Operand} {ts : Array TypeId} : stepK P N ⟨d, .call ⟨.value f, xs, ts⟩, ty, ps, af, g⟩ K S = (dstOk N d ∧ callK P (S.ev f) (xs.toList.map S.ev) d K S) := by rw [sK rfl]; rfl
theorem stepK_append {s x : Operand} {st xt : TypeId} : stepK P N ⟨d, .call ⟨.builtin .append, ⟨[s, x]⟩, ⟨[st, xt]⟩⟩, ty, ps, af, g⟩ K S = (dstOk N d ∧ bif notInt P xt then appK (slk P st) (elemZ P st) true (S.ev s) (S.ev x) d K S else bif (ik P xt).isSome then appZK (slk P st) (elemZ P st) (S.ev s) (S.ev x) d K S else False) := by rw [sK rfl]; rfl
theorem stepK_cap {t : TypeId} {x : Operand} : stepK P N ⟨d, .call ⟨.builtin .cap, ⟨[x]⟩, ⟨[t]⟩⟩, ty, ps, af, g⟩ K S = (dstOk N d ∧ resK (capSV (slk P t) (S.ev x)) d False K S) := by rw [sK rfl]; rfl
theorem appZK_nil {e size bytes : Nat} {z : List Value} {n : Int} : appZK (some (e, size, bytes)) (some z) (.sc (.slice none 0 0)) (.sc (.int .i64 n)) d K S = (z.length = size ∧ 0 < size ∧ 0 < n ∧ n * bytes ≤ 140737488355328 ∧ n ≤ 140737488355328 ∧
      allF S.h fun b => K ((⟨S.t, (b, zeros z n.toNat) :: S.h⟩ : St).put d (.os b 0 n.toNat size))) := rfl
theorem cap_nil {L : TypeId × Nat × Nat} {n c : Nat} : capSV (some L) (.sc (.slice none n c)) = .ok True (.sc (.int .i64 c)) := rfl

theorem resDK {R : VRes} (h : ∀ pre k mk, R ≠ .new pre k mk) : resD R d False K S = resK R d False K S := by
  cases R with
  | bad => rfl
  | ok pre v => rfl
  | new pre k mk => exact absurd rfl (h pre k mk)

theorem stepD_move {x : Operand} : stepD P N ⟨d, .move x, ty, ps, af, g⟩ K S = (dstOk N d ∧ K (S.put d (S.ev x))) := by rw [sD rfl rfl]; simp [valOp, resD]
theorem stepD_assign {x : Operand} : stepD P N ⟨d, .assign x, ty, ps, af, g⟩ K S = (dstOk N d ∧ K (S.put d (S.ev x))) := by rw [sD rfl rfl]; simp [valOp, resD]
theorem stepD_pick {c x y : Operand} : stepD P N ⟨d, .pick c x y, ty, ps, af, g⟩ K S = (dstOk N d ∧ resD (pickSV (S.ev c) (S.ev x) (S.ev y)) d False K S) := by rw [sD rfl rfl]; rfl
theorem stepD_bin {op : BinOp} {t t' : TypeId} {x y : Operand} : stepD P N ⟨d, .binOp op t x y t', ty, ps, af, g⟩ K S = (dstOk N d ∧ resD (binSV P op t (S.ev x) (S.ev y)) d False K S) := by rw [sD rfl rfl]; rfl
theorem stepD_un {op : UnOp} {t : TypeId} {x : Operand} : stepD P N ⟨d, .unOp op t x, ty, ps, af, g⟩ K S = (dstOk N d ∧ resD (unSV op (S.ev x)) d False K S) := by rw [sD rfl rfl]; rfl
theorem stepD_load {t : TypeId} {x : Operand} : stepD P N ⟨d, .load t x, ty, ps, af, g⟩ K S = (dstOk N d ∧ resD (loadSV (tk P t) (S.ev x) S.h) d False K S) := by rw [sD rfl rfl]; rfl
theorem stepD_indexAddr {t : TypeId} {x y : Operand} : stepD P N ⟨d, .indexAddr t x y, ty, ps, af, g⟩ K S = (dstOk N d ∧ resD (indexAddrSV (slk P t) (ark P t) (S.ev x) (S.ev y)) d False K S) := by rw [sD rfl rfl]; rfl
theorem stepD_index {t : TypeId} {x y : Operand} : stepD P N ⟨d, .index t x y, ty, ps, af, g⟩ K S = (dstOk N d ∧ resD (indexSV (isStr P t) (S.ev x) (S.ev y)) d False K S) := by rw [sD rfl rfl]; rfl
theorem stepD_fieldAddr {t : TypeId} {x : Operand} {f : Nat} : stepD P N ⟨d, .fieldAddr t x f, ty, ps, af, g⟩ K S = (dstOk N d ∧ resD (fieldAddrSV (fdk P t f) (S.ev x)) d False K S) := by rw [sD rfl rfl]; rfl
theorem stepD_field {t : TypeId} {x : Operand} {f : Nat} : stepD P N ⟨d, .field t x f, ty, ps, af, g⟩ K S = (dstOk N d ∧ resD (fieldSV (fdk P t f) (S.ev x)) d False K S) := by rw [sD rfl rfl]; rfl
theorem stepD_extract {x : Operand} {i : Nat} : stepD P N ⟨d, .extract x i, ty, ps, af, g⟩ K S = (dstOk N d ∧ resD (tupSV (S.ev x) i) d False K S) := by rw [sD rfl rfl]; rfl
theorem stepD_nilCheck {x : Operand} : stepD P N ⟨d, .nilCheck x, ty, ps, af, g⟩ K S = (dstOk N d ∧ resD (nilSV (S.ev x)) d False K S) := by rw [sD rfl rfl]; rfl
theorem stepD_slice {t : TypeId} {x : Operand} {lo hi mx : Option Operand} : stepD P N ⟨d, .slice t x lo hi mx, ty, ps, af, g⟩ K S = (dstOk N d ∧ resD (sliceSV (isStr P t) (slk P t) (S.ev x) (lo.map S.ev) (hi.map S.ev) (mx.map S.ev)) d False K S) := by rw [sD rfl rfl]; rfl
theorem stepD_convert {s t : TypeId} {x : Operand} : stepD P N ⟨d, .convert s t x, ty, ps, af, g⟩ K S = (dstOk N d ∧ resD (bif (P.underlying s).isSome then convSV (ik P t) (isStr P t) (S.ev x) else .bad) d False K S) := by rw [sD rfl rfl]; rfl
theorem stepD_build {t : TypeId} {xs : Array (Nat × Operand)} : stepD P N ⟨d, .build t xs, ty, ps, af, g⟩ K S = (dstOk N d ∧ resD (buildSV (flk P t) (ark P t) (zk P t) (xs.toList.map fun p => (p.1, S.ev p.2))) d False K S) := by rw [sD rfl rfl]; rfl
theorem stepD_makeFunc {f : Fn} {xs ys : Array Operand} : stepD P N ⟨d, .makeFunc f xs ys, ty, ps, af, g⟩ K S = (dstOk N d ∧ K (S.put d (.fn f (xs.toList.map S.ev) (ys.toList.map S.ev)))) := by rw [sD rfl rfl]; simp [valOp, resD]
theorem stepD_len {t : TypeId} {x : Operand} : stepD P N ⟨d, .call ⟨.builtin .len, ⟨[x]⟩, ⟨[t]⟩⟩, ty, ps, af, g⟩ K S = (dstOk N d ∧ resD (lenSV (isStr P t) (slk P t) (ark P t) (S.ev x)) d False K S) := by rw [sD rfl rfl]; rfl
theorem stepD_min {ts : Array TypeId} {x y : Operand} : stepD P N ⟨d, .call ⟨.builtin .min, ⟨[x, y]⟩, ts⟩, ty, ps, af, g⟩ K S = (dstOk N d ∧ resD (minSV (S.ev x) (S.ev y)) d False K S) := by rw [sD rfl rfl]; rfl
theorem stepD_max {ts : Array TypeId} {x y : Operand} : stepD P N ⟨d, .call ⟨.builtin .max, ⟨[x, y]⟩, ts⟩, ty, ps, af, g⟩ K S = (dstOk N d ∧ resD (maxSV (S.ev x) (S.ev y)) d False K S) := by rw [sD rfl rfl]; rfl
theorem stepD_call {f : Operand} {xs : Array Operand} {ts : Array TypeId} : stepD P N ⟨d, .call ⟨.value f, xs, ts⟩, ty, ps, af, g⟩ K S = (dstOk N d ∧ pcallK P (S.ev f) (xs.toList.map S.ev) d K S) := by rw [sD rfl rfl]; rfl
theorem stepD_store {t : TypeId} {x y : Operand} : stepD P N ⟨d, .store t x y, ty, ps, af, g⟩ K S = (dstOk N d ∧ storeK (tk P t) (S.ev x) (svCells (S.ev y)) d K S) := by rw [sU rfl, stepK_store]
theorem stepD_append {s x : Operand} {st xt : TypeId} : stepD P N ⟨d, .call ⟨.builtin .append, ⟨[s, x]⟩, ⟨[st, xt]⟩⟩, ty, ps, af, g⟩ K S = (dstOk N d ∧ bif notInt P xt then appK (slk P st) (elemZ P st) true (S.ev s) (S.ev x) d K S else bif (ik P xt).isSome then appZK (slk P st) (elemZ P st) (S.ev s) (S.ev x) d K S else False) := by rw [sU rfl, stepK_append]
theorem stepD_box {t : TypeId} {x : Operand} : stepD P N ⟨d, .box t x, ty, ps, af, g⟩ K S = (dstOk N d ∧ resK (boxSV (S.ev x)) d False K S) := by rw [sU rfl, stepK_box]
theorem stepD_buildSlice {t : TypeId} {n : Nat} {xs : Array (Nat × Operand)} : stepD P N ⟨d, .buildSlice t n xs, ty, ps, af, g⟩ K S = (dstOk N d ∧ resK (buildSliceSV (slk P t) (elemZ P t) n (xs.toList.map fun p => (p.1, S.ev p.2))) d False K S) := by rw [sU rfl, stepK_buildSlice]
theorem stepD_makeSlice {t : TypeId} {x y : Operand} : stepD P N ⟨d, .makeSlice t x y, ty, ps, af, g⟩ K S = (dstOk N d ∧ resK (makeSV (slk P t) (elemZ P t) (S.ev x) (S.ev y)) d False K S) := by rw [sU rfl, stepK_makeSlice]

theorem resK_ok {pre : Prop} {v : SV} {E : Prop} : resK (.ok pre v) d E K S = (pre ∧ K (S.put d v)) := rfl
theorem resK_new {pre : Prop} {k : Blk} {mk : Nat → SV} {E : Prop} : resK (.new pre k mk) d E K S = (pre ∧ allF S.h fun b => K ((⟨S.t, (b, k) :: S.h⟩ : St).put d (mk b))) := rfl
theorem resD_ok {pre : Prop} {v : SV} {E : Prop} : resD (.ok pre v) d E K S = (pre ∧ K (S.put d v)) := rfl

theorem dstOk_some {i : Tmp} : dstOk N (some i) = (i < N) := rfl
theorem dstOk_none : dstOk N none = True := rfl
theorem put_some {t : List (Nat × SV)} {h : Heap} {i : Tmp} {v : SV} : (St.mk t h).put (some i) v = ⟨(i, v) :: t, h⟩ := rfl
theorem put_none {v : SV} : S.put none v = S := rfl
theorem ev_tmp {t : List (Nat × SV)} {h : Heap} {i : Tmp} : (St.mk t h).ev (.tmp i) = look t i := rfl
theorem ev_const {v : Value} : S.ev (.const v) = .sc v := rfl
theorem ev_func {f : FuncId} : S.ev (.func f) = .fn (.func f) [] [] := rfl
theorem look_if {j i : Nat} {v : SV} {t : List (Nat × SV)} : look ((j, v) :: t) i = if j = i then v else look t i := by
  rw [look_cons]
  by_cases h : j = i
  · rw [if_pos h, show Nat.beq j i = true by rw [Nat.beq_eq]; exact h]; rfl
  · rw [if_neg h, show Nat.beq j i = false by rw [← Bool.not_eq_true, Nat.beq_eq]; exact h]; rfl
theorem look_nil {i : Nat} : look [] i = .any := rfl
theorem find_cons {c b : Nat} {k : Blk} {h : Heap} : Heap.find ((c, k) :: h) b = if c = b then some k else Heap.find h b := rfl
theorem upd_cons {c b : Nat} {k k' : Blk} {h : Heap} : Heap.upd ((c, k') :: h) b k = if c = b then (c, k) :: h else (c, k') :: Heap.upd h b k := rfl
theorem ren_cons {c b b' : Nat} {k k' : Blk} {h : Heap} : Heap.ren ((c, k') :: h) b b' k = if c = b then (b', k) :: h else (c, k') :: Heap.ren h b b' k := rfl
theorem del_cons {c b : Nat} {k' : Blk} {h : Heap} : Heap.del ((c, k') :: h) b = if c = b then h else (c, k') :: Heap.del h b := rfl
theorem fresh_cons {c b : Nat} {k : Blk} {h : Heap} : fresh ((c, k) :: h) b = ((c ≠ b ∧ b ≠ c) ∧ fresh h b) := rfl
theorem fresh_nil {b : Nat} : fresh [] b = True := rfl

theorem thn_normal {Q : Exit → St → Prop} : thn K Q .normal S = K S := rfl
theorem thn_exit {Q : Exit → St → Prop} {i : Nat} : thn K Q (.exit i) S = Q (.exit i) S := rfl
theorem thn_ret {Q : Exit → St → Prop} : thn K Q .ret S = Q .ret S := rfl
theorem inB_normal {Q : Exit → St → Prop} {i : Nat} : inB i Q .normal S = Q .normal S := rfl
theorem inB_ret {Q : Exit → St → Prop} {i : Nat} : inB i Q .ret S = Q .ret S := rfl
theorem inB_exit {Q : Exit → St → Prop} {i j : Nat} : inB i Q (.exit j) S = if j = i then Q .normal S else Q (.exit j) S := by
  show (bif Nat.beq j i then _ else _) = _
  by_cases h : j = i
  · rw [if_pos h, show Nat.beq j i = true by rw [Nat.beq_eq]; exact h]; rfl
  · rw [if_neg h, show Nat.beq j i = false by rw [← Bool.not_eq_true, Nat.beq_eq]; exact h]; rfl
theorem condK_bool {b : Bool} {A B : Prop} : condK (.sc (.bool b)) A B = if b = true then A else B := rfl

/-- Some of what is known is kept. -/
theorem St.le_keep {S S' : St} (hh : S'.h = S.h) (ht : ∀ i, look S'.t i = .any ∨ look S'.t i = look S.t i) : S.le S' := fun M w0 D N a w r =>
  ⟨r.defers, r.n, fun i => by
    rcases ht i with e | e
    · rw [e]; exact .any _
    · rw [e, hh]; exact r.t i, by rw [hh]; exact r.own, r.frm, by rw [hh]; exact r.new⟩

def sub (S : St) (l : List (Nat × SV)) : Prop := match l with
  | [] => True
  | (i, v) :: r => look S.t i = v ∧ sub S r

theorem look_sub {S : St} : ∀ {l : List (Nat × SV)}, sub S l → ∀ i, look l i = .any ∨ look l i = look S.t i
  | [], _, i => .inl rfl
  | (j, v) :: r, h, i => by
    rw [look_if]
    by_cases hj : j = i
    · rw [if_pos hj]; subst hj; exact .inr h.1.symm
    · rw [if_neg hj]; exact look_sub h.2 i

theorem St.le_sub {t l : List (Nat × SV)} {h : Heap} (hs : sub ⟨t, h⟩ l) : (St.mk t h).le ⟨l, h⟩ := St.le_keep rfl (look_sub hs)
theorem sub_cons {S : St} {i : Nat} {v : SV} {l : List (Nat × SV)} : sub S ((i, v) :: l) = (look S.t i = v ∧ sub S l) := rfl
theorem sub_nil {S : St} : sub S [] = True := rfl

theorem idx_ints {e s b : Nat} {A : Option (Nat × Nat)} {k k' : IntKind} {l : List Int} {n : Int} : indexAddrSV (some (e, s, b)) A (ints k l) (.sc (.int k' n)) = .ok (0 ≤ n ∧ n < l.length ∧ 1 = s) (.fp [.sc (.int k (l.getD n.toNat 0))]) := rfl
theorem idx_bools {e s b : Nat} {A : Option (Nat × Nat)} {k' : IntKind} {l : List Bool} {n : Int} : indexAddrSV (some (e, s, b)) A (bools l) (.sc (.int k' n)) = .ok (0 ≤ n ∧ n < l.length ∧ 1 = s) (.fp [.sc (.bool (l.getD n.toNat false))]) := rfl
theorem idx_mat {e s b : Nat} {A : Option (Nat × Nat)} {k k' : IntKind} {l : List (List Int)} {n : Int} : indexAddrSV (some (e, s, b)) A (mat k l) (.sc (.int k' n)) = .ok (0 ≤ n ∧ n < l.length ∧ 1 = s) (.fp [ints k (l.getD n.toNat [])]) := rfl
theorem len_ints {st : Bool} {L : TypeId × Nat × Nat} {A : Option (Nat × Nat)} {k : IntKind} {l : List Int} : lenSV st (some L) A (ints k l) = .ok True (.sc (.int .i64 l.length)) := rfl
theorem len_bools {st : Bool} {L : TypeId × Nat × Nat} {A : Option (Nat × Nat)} {l : List Bool} : lenSV st (some L) A (bools l) = .ok True (.sc (.int .i64 l.length)) := rfl
theorem len_mat {st : Bool} {L : TypeId × Nat × Nat} {A : Option (Nat × Nat)} {k : IntKind} {l : List (List Int)} : lenSV st (some L) A (mat k l) = .ok True (.sc (.int .i64 l.length)) := rfl
theorem cells_ints {k : IntKind} {l : List Int} : svCells (ints k l) = some [ints k l] := rfl
theorem cells_bools {l : List Bool} : svCells (bools l) = some [bools l] := rfl
theorem cells_mat {k : IntKind} {l : List (List Int)} : svCells (mat k l) = some [mat k l] := rfl
theorem single_ints {k : IntKind} {l : List Int} : single (ints k l) = true := rfl
theorem single_bools {l : List Bool} : single (bools l) = true := rfl
theorem single_mat {k : IntKind} {l : List (List Int)} : single (mat k l) = true := rfl
theorem idx_fl {e s b m sz : Nat} {f : Nat → List SV} {A : Option (Nat × Nat)} {k' : IntKind} {n : Int} : indexAddrSV (some (e, s, b)) A (.fl m sz f) (.sc (.int k' n)) = .ok (0 ≤ n ∧ n < m ∧ sz = s) (.fp (f n.toNat)) := rfl
theorem idx_os {e s b c off len sz : Nat} {A : Option (Nat × Nat)} {k' : IntKind} {n : Int} : indexAddrSV (some (e, s, b)) A (.os c off len sz) (.sc (.int k' n)) = .ok (0 ≤ n ∧ n < len ∧ sz = s) (.op c (off + n.toNat * s)) := rfl
theorem idx_op {L : Option (TypeId × Nat × Nat)} {c off len s : Nat} {k' : IntKind} {n : Int} : indexAddrSV L (some (len, s)) (.op c off) (.sc (.int k' n)) = .ok (0 ≤ n ∧ n < len) (.op c (off + n.toNat * s)) := rfl
theorem idx_fp {L : Option (TypeId × Nat × Nat)} {cs : List SV} {len s : Nat} {k' : IntKind} {n : Int} : indexAddrSV L (some (len, s)) (.fp cs) (.sc (.int k' n)) = .ok (0 ≤ n ∧ n < len ∧ cs.length = len * s) (.fp ((cs.drop (n.toNat * s)).take s)) := rfl
theorem len_fl {st : Bool} {L : TypeId × Nat × Nat} {A : Option (Nat × Nat)} {n sz : Nat} {f : Nat → List SV} : lenSV st (some L) A (.fl n sz f) = .ok True (.sc (.int .i64 n)) := rfl
theorem len_os {st : Bool} {L : TypeId × Nat × Nat} {A : Option (Nat × Nat)} {b off n sz : Nat} : lenSV st (some L) A (.os b off n sz) = .ok True (.sc (.int .i64 n)) := rfl
theorem len_nil {st : Bool} {L : TypeId × Nat × Nat} {A : Option (Nat × Nat)} {a : Option Addr} {n c : Nat} : lenSV st (some L) A (.sc (.slice a n c)) = .ok True (.sc (.int .i64 n)) := rfl
theorem len_str {st : Bool} {L : Option (TypeId × Nat × Nat)} {A : Option (Nat × Nat)} {s : ByteArray} : lenSV st L A (.sc (.string s)) = .ok (st = true) (.sc (.int .i64 s.size)) := rfl
theorem len_op {st : Bool} {L : Option (TypeId × Nat × Nat)} {n s b o : Nat} : lenSV st L (some (n, s)) (.op b o) = .ok True (.sc (.int .i64 n)) := rfl
theorem len_agg {st : Bool} {L : Option (TypeId × Nat × Nat)} {n s : Nat} {cs : List SV} : lenSV st L (some (n, s)) (.agg cs) = .ok True (.sc (.int .i64 n)) := rfl
theorem len_fp {st : Bool} {L : Option (TypeId × Nat × Nat)} {n s : Nat} {cs : List SV} : lenSV st L (some (n, s)) (.fp cs) = .ok True (.sc (.int .i64 n)) := rfl
theorem single_int {k : IntKind} {n : Int} : single (.sc (.int k n)) = true := rfl
theorem single_bool {b : Bool} : single (.sc (.bool b)) = true := rfl
theorem single_str {s : ByteArray} : single (.sc (.string s)) = true := rfl
theorem single_slice {a : Option Addr} {n c : Nat} : single (.sc (.slice a n c)) = true := rfl
theorem single_fl {n sz : Nat} {f : Nat → List SV} : single (.fl n sz f) = true := rfl
theorem single_fp {cs : List SV} : single (.fp cs) = true := rfl
theorem single_os {b off n sz : Nat} : single (.os b off n sz) = true := rfl
theorem single_op {b off : Nat} : single (.op b off) = true := rfl
theorem single_fn {f : Fn} {c d : List SV} : single (.fn f c d) = true := rfl
theorem cells_agg {cs : List SV} : svCells (.agg cs) = bif cs.all single then some cs else none := rfl
theorem cells_int {k : IntKind} {n : Int} : svCells (.sc (.int k n)) = some [.sc (.int k n)] := rfl
theorem cells_bool {b : Bool} : svCells (.sc (.bool b)) = some [.sc (.bool b)] := rfl
theorem cells_str {s : ByteArray} : svCells (.sc (.string s)) = some [.sc (.string s)] := rfl
theorem cells_slice {a : Option Addr} {n c : Nat} : svCells (.sc (.slice a n c)) = some [.sc (.slice a n c)] := rfl
theorem cells_fl {n sz : Nat} {f : Nat → List SV} : svCells (.fl n sz f) = some [.fl n sz f] := rfl
theorem cells_fp {cs : List SV} : svCells (.fp cs) = some [.fp cs] := rfl
theorem cells_os {b off n sz : Nat} : svCells (.os b off n sz) = some [.os b off n sz] := rfl
theorem cells_op {b off : Nat} : svCells (.op b off) = some [.op b off] := rfl
theorem cells_fn {f : Fn} {c d : List SV} : svCells (.fn f c d) = some [.fn f c d] := rfl
theorem src_os {b off n sz : Nat} {h : Heap} : srcCells (.os b off n sz) h = match h.find b with | some k => some (n, getN k off (n * sz)) | none => none := rfl
theorem src_nil {h : Heap} : srcCells (.sc (.slice none 0 0)) h = some (0, []) := rfl
theorem src_fl {n sz : Nat} {f : Nat → List SV} {h : Heap} : srcCells (.fl n sz f) h = some (n, flCells f n) := rfl
theorem src_ints {k : IntKind} {l : List Int} {h : Heap} : srcCells (ints k l) h = some (l.length, l.map fun n => .sc (.int k n)) := by
  simp only [srcCells, ints]
  congr 2
  unfold flCells
  have : ∀ l : List Int, (List.range l.length).flatMap (fun i => [SV.sc (.int k (l.getD i 0))]) = l.map fun n => .sc (.int k n) := by
    intro l
    induction l with
    | nil => rfl
    | cons x r ih => rw [List.length_cons, List.range_succ_eq_map, List.flatMap_cons, List.flatMap_map]; simp only [List.getD_cons_zero, List.getD_cons_succ, List.map_cons, ih]; rfl
  exact this l
theorem srcOk_os {s b off n sz : Nat} {h : Heap} : srcOk s (.os b off n sz) h = match h.find b with | some k => sz = s ∧ off + n * sz ≤ k.len | none => False := rfl
theorem srcOk_nil {s : Nat} {h : Heap} : srcOk s (.sc (.slice none 0 0)) h = True := rfl
theorem srcOk_fl {s n sz : Nat} {f : Nat → List SV} {h : Heap} : srcOk s (.fl n sz f) h = (sz = s) := rfl
theorem srcOk_ints {s : Nat} {k : IntKind} {l : List Int} {h : Heap} : srcOk s (ints k l) h = (1 = s) := rfl
theorem appB_svs {l cs : List SV} : appB (.svs l) cs = .svs (l ++ cs) := rfl
theorem appB_ints {k : IntKind} {l : List Int} {n : Int} : appB (.ints k l) [.sc (.int k n)] = .ints k (l ++ [n]) := by simp [appB]
theorem appB_bools {l : List Bool} {b : Bool} : appB (.bools l) [.sc (.bool b)] = .bools (l ++ [b]) := rfl
theorem all_ints {k : IntKind} {l : List Int} : (l.map fun n => SV.sc (.int k n)).all single = true := by simp [single]
theorem allF_congr {h h' : Heap} {F : Nat → Prop} (hh : h = h') : allF h F = allF h' F := by rw [hh]
theorem Call_congr {f : FuncId} {args args' : List SV} {h h' : Heap} {Q : SV → Heap → Prop} (ha : args = args') (hh : h = h') : Call P f args h Q = Call P f args' h' Q := by rw [ha, hh]
theorem ifI {c : Prop} [Decidable c] {A B : Prop} (h1 : c → A) (h2 : ¬ c → B) : if c then A else B := by
  by_cases h : c
  · rw [if_pos h]; exact h1 h
  · rw [if_neg h]; exact h2 h
theorem int_eq {k : IntKind} {a b : Int} (h : a = b) : SV.sc (.int k a) = SV.sc (.int k b) := by rw [h]
theorem bool_eq {a b : Bool} (h : a = b) : SV.sc (.bool a) = SV.sc (.bool b) := by rw [h]

end
attribute [congr] allF_congr Call_congr
attribute [go_sem] Option.isSome_none Option.isSome_some Option.getD_some Option.getD_none List.set_cons_zero List.set_cons_succ List.set_nil Int.ofNat_eq_natCast Bool.not_eq_true' decide_eq_false_iff_not Bool.and_eq_true Bool.or_eq_true Bool.not_eq_eq_eq_not guardB_undef idx_fl idx_os idx_op idx_fp len_fl len_os len_nil len_str len_op len_agg len_fp single_int single_bool single_str single_slice single_fl single_fp single_os single_op single_fn cells_agg cells_int cells_bool cells_str cells_slice cells_fl cells_fp cells_os cells_op cells_fn src_os src_nil src_fl src_ints srcOk_os srcOk_nil srcOk_fl srcOk_ints idx_ints idx_bools idx_mat len_ints len_bools len_mat cells_ints cells_bools cells_mat single_ints single_bools single_mat vcOps_nil vcOps_plain vcOps_guard vcD_nil vcD_plain vcD_guard guardK_some guardB_yes guardB_no gdst_zero gdst_succ stepK_alloc stepK_move stepK_assign stepK_pick stepK_bin stepK_un stepK_load stepK_indexAddr stepK_index stepK_fieldAddr stepK_field stepK_extract stepK_nilCheck stepK_slice stepK_convert stepK_build stepK_makeFunc stepK_len stepK_min stepK_max stepK_call stepK_store stepK_append stepK_cap appZK_nil cap_nil stepK_box stepK_buildSlice stepK_makeSlice stepD_move stepD_assign stepD_pick stepD_bin stepD_un stepD_load stepD_indexAddr stepD_index stepD_fieldAddr stepD_field stepD_extract stepD_nilCheck stepD_slice stepD_convert stepD_build stepD_makeFunc stepD_len stepD_min stepD_max stepD_call stepD_store stepD_append stepD_box stepD_buildSlice stepD_makeSlice resK_ok resK_new resD_ok dstOk_some dstOk_none put_some put_none ev_tmp ev_const ev_func look_if look_nil find_cons upd_cons ren_cons del_cons fresh_cons fresh_nil pickSV binSV binII binSS binBB unSV loadSV  indexSV fieldAddrSV fieldSV tupSV nilSV sliceSV bnd convSV boxSV allocSV  minSV maxSV makeSV zeros getN storeK callK pcallK   Blk.len Blk.get Blk.set setN      newB appB_svs appB_ints appB_bools all_ints List.length_append List.length_map buildSliceSV fillSV setAll zfill buildSV List.map_cons List.map_nil List.nil_append List.cons_append List.append_nil List.getD_cons_zero List.getD_cons_succ List.length_cons List.length_nil List.all_cons List.all_nil Option.map_some Option.map_none Bool.and_true Bool.true_and Bool.and_false Bool.false_and cond_true cond_false decide_eq_true_eq Nat.beq_eq Bool.not_eq_true Bool.not_eq_false Bool.not_true Bool.not_false true_and and_true eq_self ne_eq not_true_eq_false not_false_eq_true Nat.zero_add Nat.add_zero Nat.mul_one Nat.one_mul Int.toNat_natCast Int.natCast_nonneg gt_iff_lt Nat.lt_add_one if_true if_false Bool.false_eq_true List.size_toArray Nat.lt_irrefl Nat.succ_eq_add_one Nat.not_lt_zero Nat.le_refl thn_normal thn_exit thn_ret inB_normal inB_ret inB_exit condK_bool
end Go.Ab
