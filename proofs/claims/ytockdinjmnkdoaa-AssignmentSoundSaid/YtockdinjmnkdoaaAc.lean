/- What each operation yields, in the abstract layer, and that the model's operation yields just this. -/
import Derived.Test.YtockdinjmnkdoaaAb
namespace Go.Ab
open Go.RowKit

/-! ### what the tables say of a type -/
def tk (P : Program) (t : TypeId) : Option (Bool × Nat) :=
  match P.underlying t, P.info? t with
  | some (.struct _), some i => some (true, i.size)
  | some (.array _ _), some i => some (true, i.size)
  | some _, some i => some (false, i.size)
  | _, _ => none
def slk (P : Program) (t : TypeId) : Option (TypeId × Nat × Nat) :=
  match P.underlying t with
  | some (.slice e) => match P.info? e with
    | some i => some (e, i.size, i.bytes)
    | none => none
  | _ => none
def ark (P : Program) (t : TypeId) : Option (Nat × Nat) :=
  match P.underlying t with
  | some (.array n e) => match P.info? e with
    | some i => some (n, i.size)
    | none => none
  | _ => none
def fdk (P : Program) (s : TypeId) (i : Nat) : Option (Nat × Bool × Nat) :=
  match P.underlying s with
  | some (.struct fs) => match fs[i]? with
    | some f => match tk P f.type with
      | some (g, n) => some (f.offset, g, n)
      | none => none
    | none => none
  | _ => none
def ik (P : Program) (t : TypeId) : Option IntKind :=
  match P.underlying t with
  | some (.int k) => some k
  | _ => none
def zk (P : Program) (t : TypeId) : Option (List Value) :=
  match P.info? t with
  | some i => match i.zero with
    | some v => some v.cells.toList
    | none => none
  | none => none
def isStr (P : Program) (t : TypeId) : Bool := match P.underlying t with | some .string => true | _ => false
def isBool (P : Program) (t : TypeId) : Bool := match P.underlying t with | some .bool => true | _ => false

/-- One cell's value, for certain. -/
def single : SV → Bool
  | .sc (.agg _) => false
  | .sc (.tuple _) => false
  | .sc _ => true
  | .fl _ _ _ => true
  | .fp _ => true
  | .os _ _ _ _ => true
  | .op _ _ => true
  | .fn _ _ _ => true
  | _ => false

/-- The cells of a value. -/
def svCells : SV → Option (List SV)
  | .agg cs => bif cs.all single then some cs else none
  | v => bif single v then some [v] else none

inductive VRes where
  | bad
  | ok (pre : Prop) (v : SV)
  | new (pre : Prop) (k : Blk) (mk : Nat → SV)

def binII (op : BinOp) (k : IntKind) (a : Int) (k' : IntKind) (b : Int) : VRes :=
  match op with
  | .shl => .ok (0 ≤ b) (.sc (.int k (k.wrap (a * 2 ^ (min b.toNat k.bits)))))
  | .shr => .ok (0 ≤ b) (.sc (.int k (a.fdiv (2 ^ (min b.toNat k.bits)))))
  | .add => .ok (k = k') (.sc (.int k (k.wrap (a + b))))
  | .sub => .ok (k = k') (.sc (.int k (k.wrap (a - b))))
  | .mul => .ok (k = k') (.sc (.int k (k.wrap (a * b))))
  | .quo => .ok (k = k' ∧ b ≠ 0) (.sc (.int k (k.wrap (a.tdiv b))))
  | .rem => .ok (k = k' ∧ b ≠ 0) (.sc (.int k (a.tmod b)))
  | .and => .ok (k = k') (.sc (.int k (bits .and k a b)))
  | .or => .ok (k = k') (.sc (.int k (bits .or k a b)))
  | .xor => .ok (k = k') (.sc (.int k (bits .xor k a b)))
  | .andNot => .ok (k = k') (.sc (.int k (bits .andNot k a b)))
  | .eql => .ok (k = k') (.sc (.bool (decide (a = b))))
  | .neq => .ok (k = k') (.sc (.bool (!decide (a = b))))
  | .lss => .ok (k = k') (.sc (.bool (decide (a < b))))
  | .leq => .ok (k = k') (.sc (.bool (decide (a ≤ b))))
  | .gtr => .ok (k = k') (.sc (.bool (decide (b < a))))
  | .geq => .ok (k = k') (.sc (.bool (decide (b ≤ a))))

def binSS (op : BinOp) (a b : ByteArray) : VRes :=
  match op with
  | .add => .ok (((a.size + b.size : Nat) : Int) ≤ 9223372036854775807) (.sc (.string (a ++ b)))
  | .eql => .ok True (.sc (.bool (a.toList == b.toList)))
  | .neq => .ok True (.sc (.bool (!(a.toList == b.toList))))
  | .lss => .ok True (.sc (.bool (Op.bytesLess a.toList b.toList)))
  | .leq => .ok True (.sc (.bool (Op.bytesLess a.toList b.toList || a.toList == b.toList)))
  | .gtr => .ok True (.sc (.bool (!(Op.bytesLess a.toList b.toList || a.toList == b.toList))))
  | .geq => .ok True (.sc (.bool (!(Op.bytesLess a.toList b.toList))))
  | _ => .bad

def binBB (bt : Bool) (op : BinOp) (a b : Bool) : VRes :=
  match op with
  | .eql => .ok (bt = true) (.sc (.bool (a == b)))
  | .neq => .ok (bt = true) (.sc (.bool (!(a == b))))
  | _ => .bad

def binSV (P : Program) (op : BinOp) (t : TypeId) (x y : SV) : VRes :=
  match x, y with
  | .sc (.int k a), .sc (.int k' b) => binII op k a k' b
  | .sc (.string a), .sc (.string b) => binSS op a b
  | .sc (.bool a), .sc (.bool b) => binBB (isBool P t) op a b
  | _, _ => .bad

def unSV (op : UnOp) (x : SV) : VRes :=
  match op, x with
  | .neg, .sc (.int k n) => .ok True (.sc (.int k (k.wrap (0 - n))))
  | .not, .sc (.bool b) => .ok True (.sc (.bool (!b)))
  | .xor, .sc (.int k n) => .ok True (.sc (.int k (bits .xor k (if k.signed then -1 else k.max) n)))
  | _, _ => .bad

def getN (k : Blk) (off : Nat) (n : Nat) : List SV := match n with
  | 0 => []
  | n + 1 => k.get off :: getN k (off + 1) n

def loadSV (T : Option (Bool × Nat)) (x : SV) (h : Heap) : VRes :=
  match T, x with
  | some (false, _), .fp cs => .ok (0 < cs.length) (cs.getD 0 .any)
  | some (true, n), .fp cs => .ok (cs.length = n) (.agg cs)
  | some (false, _), .op b off => match h.find b with
    | some k => .ok (off < k.len) (k.get off)
    | none => .bad
  | some (true, n), .op b off => match h.find b with
    | some k => .ok (off + n ≤ k.len) (.agg (getN k off n))
    | none => .bad
  | _, _ => .bad

def indexAddrSV (L : Option (TypeId × Nat × Nat)) (A : Option (Nat × Nat)) (x i : SV) : VRes :=
  match i with
  | .sc (.int _ n) => match x with
    | .fl m sz f => match L with
      | some (_, s, _) => .ok (0 ≤ n ∧ n < m ∧ sz = s) (.fp (f n.toNat))
      | none => .bad
    | .os b off len sz => match L with
      | some (_, s, _) => .ok (0 ≤ n ∧ n < len ∧ sz = s) (.op b (off + n.toNat * s))
      | none => .bad
    | .op b off => match A with
      | some (len, s) => .ok (0 ≤ n ∧ n < len) (.op b (off + n.toNat * s))
      | none => .bad
    | .fp cs => match A with
      | some (len, s) => .ok (0 ≤ n ∧ n < len ∧ cs.length = len * s) (.fp ((cs.drop (n.toNat * s)).take s))
      | none => .bad
    | _ => .bad
  | _ => .bad

def indexSV (st : Bool) (x i : SV) : VRes :=
  match x, i with
  | .sc (.string s), .sc (.int _ n) => .ok (st = true ∧ 0 ≤ n ∧ n < s.size) (.sc (.int .u8 (s.data.toList.getD n.toNat 0).toNat))
  | _, _ => .bad

def fieldAddrSV (F : Option (Nat × Bool × Nat)) (x : SV) : VRes :=
  match F, x with
  | some (off, _, n), .fp cs => .ok (n ≠ 0 ∧ off + n ≤ cs.length) (.fp ((cs.drop off).take n))
  | some (off, _, n), .op b o => .ok (n ≠ 0) (.op b (o + off))
  | _, _ => .bad

def fieldSV (F : Option (Nat × Bool × Nat)) (x : SV) : VRes :=
  match F, x with
  | some (off, true, n), .agg cs => .ok (off + n ≤ cs.length) (.agg ((cs.drop off).take n))
  | some (off, false, _), .agg cs => .ok (off < cs.length) (cs.getD off .any)
  | _, _ => .bad

def lenSV (st : Bool) (L : Option (TypeId × Nat × Nat)) (A : Option (Nat × Nat)) (x : SV) : VRes :=
  match x with
  | .fl n _ _ => match L with
    | some _ => .ok True (.sc (.int .i64 n))
    | none => .bad
  | .os _ _ n _ => match L with
    | some _ => .ok True (.sc (.int .i64 n))
    | none => .bad
  | .sc (.slice _ n _) => match L with
    | some _ => .ok True (.sc (.int .i64 n))
    | none => .bad
  | .sc (.string s) => .ok (st = true) (.sc (.int .i64 s.size))
  | _ => match A with
    | some (n, _) => .ok True (.sc (.int .i64 n))
    | none => .bad

/-- A bound of a slice expression. -/
def bnd (x : Option SV) (d : Nat) : Option Int :=
  match x with
  | none => some d
  | some (.sc (.int _ n)) => some n
  | _ => none

def sliceSV (st : Bool) (L : Option (TypeId × Nat × Nat)) (x : SV) (lo hi mx : Option SV) : VRes :=
  match mx with
  | some m => match hi with
    | none => .bad
    | some hi => match x with
      | .fl n sz f => match L, bnd lo 0, bnd (some hi) n, bnd (some m) n with
        | some (_, s, _), some l, some h, some m => .ok (sz = s ∧ 0 ≤ l ∧ l ≤ h ∧ h ≤ m ∧ m ≤ n) (.fl (h - l).toNat sz (fun i => f (l.toNat + i)))
        | _, _, _, _ => .bad
      | .os b off n sz => match L, bnd lo 0, bnd (some hi) n, bnd (some m) n with
        | some (_, s, _), some l, some h, some m => .ok (sz = s ∧ 0 ≤ l ∧ l ≤ h ∧ h ≤ m ∧ m ≤ n ∧ (l = 0 ∨ l < h)) (.os b (off + l.toNat * s) (h - l).toNat sz)
        | _, _, _, _ => .bad
      | _ => .bad
  | none => match x with
    | .sc (.string s) => match bnd lo 0, bnd hi s.size with
      | some l, some h => .ok (st = true ∧ 0 ≤ l ∧ l ≤ h ∧ h ≤ s.size) (.sc (.string (s.extract l.toNat h.toNat)))
      | _, _ => .bad
    | .sc (.slice none 0 0) => match L, bnd lo 0, bnd hi 0 with
      | some _, some l, some h => .ok (0 ≤ l ∧ l ≤ h ∧ h ≤ 0) (.sc (.slice none 0 0))
      | _, _, _ => .bad
    | .fl n sz f => match L, bnd lo 0, bnd hi n with
      | some (_, s, _), some l, some h => .ok (sz = s ∧ 0 ≤ l ∧ l ≤ h ∧ h ≤ n) (.fl (h - l).toNat sz (fun i => f (l.toNat + i)))
      | _, _, _ => .bad
    | .os b off n sz => match L, bnd lo 0, bnd hi n with
      | some (_, s, _), some l, some h => .ok (sz = s ∧ 0 ≤ l ∧ l ≤ h ∧ h ≤ n ∧ (l = 0 ∨ l < h)) (.os b (off + l.toNat * s) (h - l).toNat sz)
      | _, _, _ => .bad
    | _ => .bad

def convSV (kd : Option IntKind) (sd : Bool) (x : SV) : VRes :=
  match x with
  | .sc (.int _ n) => match kd with
    | some k => .ok True (.sc (.int k (k.wrap n)))
    | none => .bad
  | .sc (.string s) => .ok (sd = true) (.sc (.string s))
  | _ => .bad

def nilSV (x : SV) : VRes :=
  match x with
  | .fp cs => .ok True (.fp cs)
  | .op b o => .ok True (.op b o)
  | .fn (.func f) a c => .ok True (.fn (.func f) a c)
  | _ => .bad

def zfill (z : List Value) (n : Nat) : List SV := match n with
  | 0 => []
  | n + 1 => z.map SV.sc ++ zfill z n
/-- The block of a new slice of zeros. -/
def zeros (z : List Value) (n : Nat) : Blk :=
  match z with
  | [.int k 0] => .ints k (List.replicate n 0)
  | [.bool false] => .bools (List.replicate n false)
  | z => .svs (zfill z n)

def makeSV (L : Option (TypeId × Nat × Nat)) (Z : Option (List Value)) (l c : SV) : VRes :=
  match L, Z, l, c with
  | some (_, s, bytes), some z, .sc (.int _ n), .sc (.int _ m) =>
    .new (0 ≤ n ∧ n ≤ m ∧ m ≤ 9223372036854775807 ∧ bytes * m ≤ 281474976710656 ∧ z.length = s ∧ 0 < s) (zeros z m.toNat) (fun b => .os b 0 n.toNat s)
  | _, _, _, _ => .bad

end Go.Ab
