/- A reading of the abstract layer that can be carried out: values with names for blocks; what each operation yields. -/
import Derived.Test.YtockdinjmnkdoaaAu
set_option linter.unusedVariables false
set_option linter.unusedSimpArgs false
namespace Go.Ab
open Go.RowKit

/-- A value; blocks have names. -/
inductive IV where
  | any
  | sc (v : Value)
  | agg (cs : List IV)
  | tup (cs : List IV)
  | os (b off len sz : Nat)
  | op (b off : Nat)
  | fn (g : Fn) (first captured : List IV)

instance : Inhabited IV := ⟨.any⟩

mutual
def IV.den (ρ : Nat → Nat) : IV → SV
  | .any => .any
  | .sc v => .sc v
  | .agg cs => .agg (IV.denL ρ cs)
  | .tup cs => .tup (IV.denL ρ cs)
  | .os b off len sz => .os (ρ b) off len sz
  | .op b off => .op (ρ b) off
  | .fn g a c => .fn g (IV.denL ρ a) (IV.denL ρ c)
def IV.denL (ρ : Nat → Nat) : List IV → List SV
  | [] => []
  | x :: r => IV.den ρ x :: IV.denL ρ r
end

theorem IV.denL_map (ρ : Nat → Nat) : ∀ l, IV.denL ρ l = l.map (IV.den ρ)
  | [] => rfl
  | x :: r => by rw [IV.denL, IV.denL_map ρ r]; rfl

theorem den_getD (ρ : Nat → Nat) (l : List IV) (i : Nat) : (l.map (IV.den ρ)).getD i .any = (l.getD i .any).den ρ := by
  simp only [List.getD_eq_getElem?_getD, List.getElem?_map]
  cases l[i]? <;> simp [IV.den]

abbrev IHeap := List (Nat × List IV)

def ifind : IHeap → Nat → Option (List IV)
  | [], _ => none
  | (c, k) :: r, b => bif Nat.beq c b then some k else ifind r b

def iupd : IHeap → Nat → List IV → IHeap
  | [], _, _ => []
  | (c, k') :: r, b, k => bif Nat.beq c b then (c, k) :: r else (c, k') :: iupd r b k

def idel : IHeap → Nat → IHeap
  | [], _ => []
  | (c, k') :: r, b => bif Nat.beq c b then idel r b else (c, k') :: idel r b

/-- The youngest name stands ahead. -/
def iins : IHeap → Nat → List IV → IHeap
  | [], b, k => [(b, k)]
  | (c, k') :: r, b, k => bif Nat.ble c b then (b, k) :: (c, k') :: r else (c, k') :: iins r b k

theorem ifind_mem {h : IHeap} {b : Nat} {k : List IV} (hf : ifind h b = some k) : (b, k) ∈ h := by
  induction h with
  | nil => cases hf
  | cons x r ih =>
    obtain ⟨c, k'⟩ := x
    simp only [ifind] at hf
    cases hb : Nat.beq c b with
    | true => rw [hb] at hf; rw [Nat.beq_eq] at hb; subst hb; cases hf; exact List.mem_cons_self
    | false => rw [hb] at hf; exact List.mem_cons_of_mem _ (ih hf)

theorem mem_iins {h : IHeap} {b : Nat} {k : List IV} {x : Nat × List IV} : x ∈ iins h b k ↔ x = (b, k) ∨ x ∈ h := by
  induction h with
  | nil => simp [iins]
  | cons y r ih =>
    obtain ⟨c, k'⟩ := y
    simp only [iins]
    cases Nat.ble c b with
    | true => simp
    | false =>
      simp only [cond_false, List.mem_cons, ih]
      exact ⟨fun x => x.elim (fun x => .inr (.inl x)) (fun x => x.elim .inl (fun x => .inr (.inr x))), fun x => x.elim (fun x => .inr (.inl x)) (fun x => x.elim .inl (fun x => .inr (.inr x)))⟩

theorem mem_idel {h : IHeap} {b : Nat} {x : Nat × List IV} : x ∈ idel h b ↔ x ∈ h ∧ x.1 ≠ b := by
  induction h with
  | nil => simp [idel]
  | cons y r ih =>
    obtain ⟨c, k'⟩ := y
    simp only [idel]
    cases hb : Nat.beq c b with
    | true =>
      rw [Nat.beq_eq] at hb
      simp only [cond_true, ih, List.mem_cons]
      constructor
      · rintro ⟨h1, h2⟩; exact ⟨.inr h1, h2⟩
      · rintro ⟨h1 | h1, h2⟩
        · subst h1; exact absurd hb h2
        · exact ⟨h1, h2⟩
    | false =>
      have hb' : c ≠ b := fun e => by rw [← Nat.beq_eq, hb] at e; cases e
      simp only [cond_false, List.mem_cons, ih]
      constructor
      · rintro (h1 | h1)
        · subst h1; exact ⟨.inl rfl, hb'⟩
        · exact ⟨.inr h1.1, h1.2⟩
      · rintro ⟨h1 | h1, h2⟩
        · exact .inl h1
        · exact .inr ⟨h1, h2⟩

/-- What is updated: each member is an old one of another name, or the new one. -/
theorem mem_iupd {h : IHeap} {b : Nat} {k : List IV} {x : Nat × List IV} (hx : x ∈ iupd h b k) : x = (b, k) ∨ x ∈ h := by
  induction h with
  | nil => cases hx
  | cons y r ih =>
    obtain ⟨c, k'⟩ := y
    simp only [iupd] at hx
    cases hb : Nat.beq c b with
    | true =>
      rw [hb] at hx
      rw [Nat.beq_eq] at hb
      subst hb
      rcases List.mem_cons.1 hx with hx | hx
      · exact .inl hx
      · exact .inr (List.mem_cons_of_mem _ hx)
    | false =>
      rw [hb] at hx
      rcases List.mem_cons.1 hx with hx | hx
      · exact .inr (hx ▸ List.mem_cons_self)
      · exact (ih hx).imp id (List.mem_cons_of_mem _)

def INd (h : IHeap) : Prop := (h.map (·.1)).Nodup

theorem iupd_fst (h : IHeap) (b : Nat) (k : List IV) : (iupd h b k).map (·.1) = h.map (·.1) := by
  induction h with
  | nil => rfl
  | cons y r ih =>
    obtain ⟨c, k'⟩ := y
    simp only [iupd]
    cases Nat.beq c b <;> simp [ih]

theorem mem_iupd_iff {h : IHeap} (hn : INd h) {b : Nat} {k k0 : List IV} (hb : (b, k0) ∈ h) {x : Nat × List IV} : x ∈ iupd h b k ↔ x = (b, k) ∨ (x ∈ h ∧ x.1 ≠ b) := by
  induction h with
  | nil => cases hb
  | cons y r ih =>
    obtain ⟨c, k'⟩ := y
    unfold INd at hn
    rw [List.map_cons, List.nodup_cons] at hn
    simp only [iupd]
    cases hcb : Nat.beq c b with
    | true =>
      rw [Nat.beq_eq] at hcb
      subst hcb
      simp only [cond_true, List.mem_cons]
      constructor
      · rintro (h1 | h1)
        · exact .inl h1
        · exact .inr ⟨.inr h1, fun e => hn.1 (List.mem_map.2 ⟨x, h1, e⟩)⟩
      · rintro (h1 | ⟨h1 | h1, h2⟩)
        · exact .inl h1
        · subst h1; exact absurd rfl h2
        · exact .inr h1
    | false =>
      have hne : c ≠ b := fun e => by rw [← Nat.beq_eq, hcb] at e; cases e
      have hb' : (b, k0) ∈ r := by
        rcases List.mem_cons.1 hb with h1 | h1
        · cases h1; exact absurd rfl hne
        · exact h1
      simp only [cond_false, List.mem_cons, ih hn.2 hb']
      constructor
      · rintro (h1 | h1 | h1)
        · subst h1; exact .inr ⟨.inl rfl, hne⟩
        · exact .inl h1
        · exact .inr ⟨.inr h1.1, h1.2⟩
      · rintro (h1 | ⟨h1 | h1, h2⟩)
        · exact .inr (.inl h1)
        · exact .inl h1
        · exact .inr (.inr ⟨h1, h2⟩)

/-! ### the heap as it is read -/

/-- The owned blocks are those that have names, and hold what is said. -/
structure HD (ρ : Nat → Nat) (ih : IHeap) (h : Heap) : Prop where
  nd : Nd h
  ind : INd ih
  inj : ∀ x ∈ ih, ∀ y ∈ ih, ρ x.1 = ρ y.1 → x.1 = y.1
  back : ∀ b, h.has b → ∃ x ∈ ih, ρ x.1 = b
  find : ∀ x ∈ ih, ∃ k, h.find (ρ x.1) = some k ∧ k.cells = x.2.map (IV.den ρ)

theorem HD.get {ρ : Nat → Nat} {ih : IHeap} {h : Heap} (H : HD ρ ih h) {n : Nat} {cs : List IV} (hf : ifind ih n = some cs) : ∃ k, h.find (ρ n) = some k ∧ k.cells = cs.map (IV.den ρ) := H.find _ (ifind_mem hf)

theorem Blk.getI {k : Blk} {cs : List IV} {ρ : Nat → Nat} (hc : k.cells = cs.map (IV.den ρ)) {i : Nat} (hi : i < cs.length) : k.get i = (cs.getD i .any).den ρ := by
  rw [get_of_cells hc (by simpa using hi), den_getD]

theorem Blk.lenI {k : Blk} {cs : List IV} {ρ : Nat → Nat} (hc : k.cells = cs.map (IV.den ρ)) : k.len = cs.length := by
  rw [← Blk.length_cells, hc, List.length_map]

theorem getN_I {k : Blk} {cs : List IV} {ρ : Nat → Nat} (hc : k.cells = cs.map (IV.den ρ)) : ∀ n off, off + n ≤ cs.length → getN k off n = ((cs.drop off).take n).map (IV.den ρ)
  | 0, off, _ => by simp [getN]
  | n + 1, off, h => by
    have hlt : off < cs.length := by omega
    rw [getN, getN_I hc n (off + 1) (by omega), Blk.getI hc hlt]
    rw [List.drop_eq_getElem_cons hlt, List.take_succ_cons, List.map_cons, getD_list _ _ _ hlt]

/-! ### operations -/

inductive IRes where
  | bad
  | ok (v : IV)
  | new (cs : List IV) (mk : Nat → IV)

def isingle : IV → Bool
  | .sc (.agg _) => false
  | .sc (.tuple _) => false
  | .sc _ => true
  | .os _ _ _ _ => true
  | .op _ _ => true
  | .fn _ _ _ => true
  | _ => false

theorem single_den (ρ : Nat → Nat) (v : IV) : single (v.den ρ) = isingle v := by
  cases v with
  | sc x => cases x <;> rfl
  | _ => rfl

theorem all_single_den (ρ : Nat → Nat) (l : List IV) : (l.map (IV.den ρ)).all single = l.all isingle := by
  induction l with
  | nil => rfl
  | cons x r ih => simp only [List.map_cons, List.all_cons, ih, single_den]

def icells : IV → Option (List IV)
  | .agg cs => bif cs.all isingle then some cs else none
  | v => bif isingle v then some [v] else none

theorem icells_den {ρ : Nat → Nat} {v : IV} {cs : List IV} (h : icells v = some cs) : svCells (v.den ρ) = some (cs.map (IV.den ρ)) := by
  have one : ∀ v : IV, (bif isingle v then some [v] else none) = some cs → (bif single (v.den ρ) then some [v.den ρ] else none) = some (cs.map (IV.den ρ)) := by
    intro v h
    rw [single_den]
    cases hs : isingle v with
    | true => rw [hs] at h; cases h; rfl
    | false => rw [hs] at h; cases h
  cases v with
  | agg c =>
    simp only [icells] at h
    simp only [IV.den, IV.denL_map, svCells, all_single_den]
    cases hs : c.all isingle with
    | true => rw [hs] at h; cases h; rfl
    | false => rw [hs] at h; cases h
  | sc x => exact one (.sc x) h
  | any => exact one .any h
  | tup c => exact one (.tup c) h
  | os b o l s => exact one (.os b o l s) h
  | op b o => exact one (.op b o) h
  | fn g a c => exact one (.fn g a c) h

def keq (a b : IntKind) : Bool := decide (a = b)

def binI (op : BinOp) (k : IntKind) (a : Int) (k' : IntKind) (b : Int) : Option Value :=
  match op with
  | .shl => bif decide (0 ≤ b) then some (.int k (k.wrap (a * 2 ^ (min b.toNat k.bits)))) else none
  | .shr => bif decide (0 ≤ b) then some (.int k (a.fdiv (2 ^ (min b.toNat k.bits)))) else none
  | .add => bif decide (k = k') then some (.int k (k.wrap (a + b))) else none
  | .sub => bif decide (k = k') then some (.int k (k.wrap (a - b))) else none
  | .mul => bif decide (k = k') then some (.int k (k.wrap (a * b))) else none
  | .quo => bif decide (k = k') && decide (b ≠ 0) then some (.int k (k.wrap (a.tdiv b))) else none
  | .rem => bif decide (k = k') && decide (b ≠ 0) then some (.int k (a.tmod b)) else none
  | .and => bif decide (k = k') then some (.int k (bits .and k a b)) else none
  | .or => bif decide (k = k') then some (.int k (bits .or k a b)) else none
  | .xor => bif decide (k = k') then some (.int k (bits .xor k a b)) else none
  | .andNot => bif decide (k = k') then some (.int k (bits .andNot k a b)) else none
  | .eql => bif decide (k = k') then some (.bool (decide (a = b))) else none
  | .neq => bif decide (k = k') then some (.bool (!decide (a = b))) else none
  | .lss => bif decide (k = k') then some (.bool (decide (a < b))) else none
  | .leq => bif decide (k = k') then some (.bool (decide (a ≤ b))) else none
  | .gtr => bif decide (k = k') then some (.bool (decide (b < a))) else none
  | .geq => bif decide (k = k') then some (.bool (decide (b ≤ a))) else none

theorem binI_ok {op : BinOp} {k k' : IntKind} {a b : Int} {v : Value} (h : binI op k a k' b = some v) : ∃ pre, binII op k a k' b = .ok pre (.sc v) ∧ pre := by
  have key : ∀ {c : Bool} {x : Value}, (bif c then some x else none) = some v → c = true ∧ x = v := by
    intro c x hh
    cases c
    · cases hh
    · cases hh; exact ⟨rfl, rfl⟩
  cases op <;> (simp only [binI] at h; obtain ⟨h1, h2⟩ := key h; subst h2; exact ⟨_, rfl, by simpa using h1⟩)

def binS (op : BinOp) (a b : ByteArray) : Option Value :=
  match op with
  | .add => bif decide (((a.size + b.size : Nat) : Int) ≤ 9223372036854775807) then some (.string (a ++ b)) else none
  | .eql => some (.bool (a.toList == b.toList))
  | .neq => some (.bool (!(a.toList == b.toList)))
  | .lss => some (.bool (Op.bytesLess a.toList b.toList))
  | .leq => some (.bool (Op.bytesLess a.toList b.toList || a.toList == b.toList))
  | .gtr => some (.bool (!(Op.bytesLess a.toList b.toList || a.toList == b.toList)))
  | .geq => some (.bool (!(Op.bytesLess a.toList b.toList)))
  | _ => none

theorem binS_ok {op : BinOp} {a b : ByteArray} {v : Value} (h : binS op a b = some v) : ∃ pre, binSS op a b = .ok pre (.sc v) ∧ pre := by
  cases op <;> simp only [binS] at h
  case add =>
    cases hd : decide (((a.size + b.size : Nat) : Int) ≤ 9223372036854775807) with
    | true => rw [hd] at h; cases h; exact ⟨_, rfl, by simpa using hd⟩
    | false => rw [hd] at h; cases h
  all_goals first | (cases h; done) | (cases h; exact ⟨_, rfl, trivial⟩)

def binIV (P : Program) (op : BinOp) (t : TypeId) (x y : IV) : IRes :=
  match x, y with
  | .sc (.int k a), .sc (.int k' b) => match binI op k a k' b with | some v => .ok (.sc v) | none => .bad
  | .sc (.string a), .sc (.string b) => match binS op a b with | some v => .ok (.sc v) | none => .bad
  | .sc (.bool a), .sc (.bool b) => match op with
    | .eql => bif isBool P t then .ok (.sc (.bool (a == b))) else .bad
    | .neq => bif isBool P t then .ok (.sc (.bool (!(a == b)))) else .bad
    | _ => .bad
  | _, _ => .bad

def unIV (op : UnOp) (x : IV) : IRes :=
  match op, x with
  | .neg, .sc (.int k n) => .ok (.sc (.int k (k.wrap (0 - n))))
  | .not, .sc (.bool b) => .ok (.sc (.bool (!b)))
  | .xor, .sc (.int k n) => .ok (.sc (.int k (bits .xor k (if k.signed then -1 else k.max) n)))
  | _, _ => .bad

def loadIV (T : Option (Bool × Nat)) (x : IV) (h : IHeap) : IRes :=
  match T, x with
  | some (g, n), .op b off => match ifind h b with
    | some k => bif g then (bif Nat.ble (off + n) k.length then .ok (.agg ((k.drop off).take n)) else .bad)
      else (bif Nat.blt off k.length then .ok (k.getD off .any) else .bad)
    | none => .bad
  | _, _ => .bad

def indexAddrIV (L : Option (TypeId × Nat × Nat)) (A : Option (Nat × Nat)) (x i : IV) : IRes :=
  match i with
  | .sc (.int _ (.ofNat n)) => match x with
    | .os b off len sz => match L with
      | some (_, s, _) => bif Nat.blt n len && Nat.beq sz s then .ok (.op b (off + n * s)) else .bad
      | none => .bad
    | .op b off => match A with
      | some (len, s) => bif Nat.blt n len then .ok (.op b (off + n * s)) else .bad
      | none => .bad
    | _ => .bad
  | _ => .bad

def indexIV (st : Bool) (x i : IV) : IRes :=
  match x, i with
  | .sc (.string s), .sc (.int _ (.ofNat n)) => bif st && Nat.blt n s.size then .ok (.sc (.int .u8 (s.data.toList.getD n 0).toNat)) else .bad
  | _, _ => .bad

def fieldAddrIV (F : Option (Nat × Bool × Nat)) (x : IV) : IRes :=
  match F, x with
  | some (off, _, n), .op b o => bif Nat.beq n 0 then .bad else .ok (.op b (o + off))
  | _, _ => .bad

def fieldIV (F : Option (Nat × Bool × Nat)) (x : IV) : IRes :=
  match F, x with
  | some (off, g, n), .agg cs => bif g then (bif Nat.ble (off + n) cs.length then .ok (.agg ((cs.drop off).take n)) else .bad)
      else (bif Nat.blt off cs.length then .ok (cs.getD off .any) else .bad)
  | _, _ => .bad

def lenIV (st : Bool) (L : Option (TypeId × Nat × Nat)) (A : Option (Nat × Nat)) (x : IV) : IRes :=
  match x with
  | .os _ _ n _ => match L with
    | some _ => .ok (.sc (.int .i64 n))
    | none => .bad
  | .sc (.slice _ n _) => match L with
    | some _ => .ok (.sc (.int .i64 n))
    | none => .bad
  | .sc (.string s) => bif st then .ok (.sc (.int .i64 s.size)) else .bad
  | .agg _ => match A with
    | some (n, _) => .ok (.sc (.int .i64 n))
    | none => .bad
  | .op _ _ => match A with
    | some (n, _) => .ok (.sc (.int .i64 n))
    | none => .bad
  | _ => .bad

def ibnd (x : Option IV) (d : Nat) : Option Nat :=
  match x with
  | none => some d
  | some (.sc (.int _ (.ofNat n))) => some n
  | _ => none

def sliceIV (st : Bool) (L : Option (TypeId × Nat × Nat)) (x : IV) (lo hi mx : Option IV) : IRes :=
  match mx with
  | some m => match hi with
    | none => .bad
    | some hi => match x with
      | .os b off n sz => match L, ibnd lo 0, ibnd (some hi) n, ibnd (some m) n with
        | some (_, s, _), some l, some h, some m => bif Nat.beq sz s && Nat.ble l h && Nat.ble h m && Nat.ble m n && (Nat.beq l 0 || Nat.blt l h) then .ok (.os b (off + l * s) (h - l) sz) else .bad
        | _, _, _, _ => .bad
      | _ => .bad
  | none => match x with
    | .sc (.string s) => match ibnd lo 0, ibnd hi s.size with
      | some l, some h => bif st && Nat.ble l h && Nat.ble h s.size then .ok (.sc (.string (s.extract l h))) else .bad
      | _, _ => .bad
    | .sc (.slice none 0 0) => match L, ibnd lo 0, ibnd hi 0 with
      | some _, some l, some h => bif Nat.ble l h && Nat.ble h 0 then .ok (.sc (.slice none 0 0)) else .bad
      | _, _, _ => .bad
    | .os b off n sz => match L, ibnd lo 0, ibnd hi n with
      | some (_, s, _), some l, some h => bif Nat.beq sz s && Nat.ble l h && Nat.ble h n && (Nat.beq l 0 || Nat.blt l h) then .ok (.os b (off + l * s) (h - l) sz) else .bad
      | _, _, _ => .bad
    | _ => .bad

def convIV (kd : Option IntKind) (sd : Bool) (x : IV) : IRes :=
  match x with
  | .sc (.int _ n) => match kd with
    | some k => .ok (.sc (.int k (k.wrap n)))
    | none => .bad
  | .sc (.string s) => bif sd then .ok (.sc (.string s)) else .bad
  | _ => .bad

def nilIV (x : IV) : IRes :=
  match x with
  | .op b o => .ok (.op b o)
  | .fn (.func f) a c => .ok (.fn (.func f) a c)
  | _ => .bad

def isetAll (l : List IV) (off : Nat) (cs : List IV) : List IV := match cs with
  | [] => l
  | c :: r => isetAll (l.set off c) (off + 1) r

theorem setAll_den (ρ : Nat → Nat) : ∀ (cs l : List IV) (off : Nat), (isetAll l off cs).map (IV.den ρ) = setAll (l.map (IV.den ρ)) off (cs.map (IV.den ρ))
  | [], _, _ => rfl
  | c :: r, l, off => by rw [isetAll, setAll_den ρ r, List.map_set]; rfl

def fillIV (place : Nat → Option (Nat × Nat)) (l : List IV) (ps : List (Nat × IV)) : Option (List IV) := match ps with
  | [] => some l
  | (i, v) :: r => match place i, icells v with
    | some (off, n), some cs => bif Nat.beq cs.length n && Nat.ble (off + n) l.length then fillIV place (isetAll l off cs) r else none
    | _, _ => none

theorem fillIV_den (ρ : Nat → Nat) {place : Nat → Option (Nat × Nat)} : ∀ (ps : List (Nat × IV)) (l r : List IV), fillIV place l ps = some r →
    fillSV place (l.map (IV.den ρ)) (ps.map fun x => (x.1, x.2.den ρ)) = some (r.map (IV.den ρ))
  | [], l, r, h => by cases h; rfl
  | (i, v) :: ps, l, r, h => by
    simp only [fillIV] at h
    simp only [List.map_cons, fillSV]
    split at h
    · rename_i off n cs hp hc
      rw [hp, icells_den hc]
      simp only [List.length_map]
      cases hb : (Nat.beq cs.length n && Nat.ble (off + n) l.length) with
      | false => rw [hb] at h; cases h
      | true =>
        rw [hb] at h
        rw [Bool.and_eq_true, Nat.beq_eq, Nat.ble_eq] at hb
        rw [if_pos hb, ← setAll_den]
        exact fillIV_den ρ ps _ _ h
    · cases h

def buildIV (F : Option (List (Nat × Nat))) (A : Option (Nat × Nat)) (Z : Option (List Value)) (ps : List (Nat × IV)) : IRes :=
  match Z with
  | none => .bad
  | some z => match F with
    | some fl => match fillIV (fun i => fl[i]?) (z.map .sc) ps with
      | some r => .ok (.agg r)
      | none => .bad
    | none => match A with
      | some (_, s) => match fillIV (fun i => some (i * s, s)) (z.map .sc) ps with
        | some r => .ok (.agg r)
        | none => .bad
      | none => .bad

def izfill (z : List Value) (n : Nat) : List IV := match n with
  | 0 => []
  | n + 1 => z.map IV.sc ++ izfill z n

theorem map_sc_den (ρ : Nat → Nat) (z : List Value) : (z.map IV.sc).map (IV.den ρ) = z.map SV.sc := by
  rw [List.map_map]; rfl

theorem izfill_den (ρ : Nat → Nat) (z : List Value) : ∀ n, (izfill z n).map (IV.den ρ) = zfill z n
  | 0 => rfl
  | n + 1 => by rw [izfill, List.map_append, map_sc_den, izfill_den ρ z n]; rfl

theorem zeros_cells (z : List Value) (n : Nat) : (zeros z n).cells = zfill z n := by
  unfold zeros
  split
  · rename_i k
    simp only [Blk.cells]
    induction n with
    | zero => rfl
    | succ n ih => rw [List.replicate_succ, List.map_cons, ih]; rfl
  · simp only [Blk.cells]
    induction n with
    | zero => rfl
    | succ n ih => rw [List.replicate_succ, List.map_cons, ih]; rfl
  · rfl

def buildSliceIV (L : Option (TypeId × Nat × Nat)) (Z : Option (List Value)) (len : Nat) (ps : List (Nat × IV)) : IRes :=
  match L, Z with
  | some (_, s, _), some z => match fillIV (fun i => some (i * s, s)) (izfill z len) ps with
    | some r => bif Nat.beq z.length s && Nat.ble (len * s) 16777216 && Nat.blt 0 s then .new r (fun b => .os b 0 len s) else .bad
    | none => .bad
  | _, _ => .bad

def makeIV (L : Option (TypeId × Nat × Nat)) (Z : Option (List Value)) (l c : IV) : IRes :=
  match L, Z, l, c with
  | some (_, s, bytes), some z, .sc (.int _ (.ofNat n)), .sc (.int _ (.ofNat m)) =>
    bif Nat.ble n m && Nat.ble m 9223372036854775807 && Nat.ble (bytes * m) 281474976710656 && Nat.beq z.length s && Nat.blt 0 s then .new (izfill z m) (fun b => .os b 0 n s) else .bad
  | _, _, _, _ => .bad

def boxIV (x : IV) : IRes := match icells x with
  | some cs => .new cs (fun b => .op b 0)
  | none => .bad
def allocIV (Z : Option (List Value)) : IRes := match Z with
  | some z => .new (z.map .sc) (fun b => .op b 0)
  | none => .bad
def pickIV (c a b : IV) : IRes := match c with
  | .sc (.bool t) => .ok (bif t then a else b)
  | _ => .bad
def tupIV (x : IV) (i : Nat) : IRes := match x with
  | .tup cs => bif Nat.blt i cs.length then .ok (cs.getD i .any) else .bad
  | _ => .bad
def capIV (L : Option (TypeId × Nat × Nat)) (x : IV) : IRes := match L, x with
  | some _, .sc (.slice none _ c) => .ok (.sc (.int .i64 c))
  | _, _ => .bad
def minIV (x y : IV) : IRes := match x, y with
  | .sc (.int k a), .sc (.int _ b) => .ok (.sc (.int k (if b < a then b else a)))
  | _, _ => .bad
def maxIV (x y : IV) : IRes := match x, y with
  | .sc (.int k a), .sc (.int _ b) => .ok (.sc (.int k (if a < b then b else a)))
  | _, _ => .bad

/-- What an operation yields. -/
def valI (P : Program) (op : Op) (ε : Operand → IV) (h : IHeap) : IRes :=
  match op with
  | .move x => .ok (ε x)
  | .assign x => .ok (ε x)
  | .pick c a b => pickIV (ε c) (ε a) (ε b)
  | .binOp op t x y _ => binIV P op t (ε x) (ε y)
  | .unOp op _ x => unIV op (ε x)
  | .load t x => loadIV (tk P t) (ε x) h
  | .indexAddr t x i => indexAddrIV (slk P t) (ark P t) (ε x) (ε i)
  | .index t x i => indexIV (isStr P t) (ε x) (ε i)
  | .fieldAddr s x f => fieldAddrIV (fdk P s f) (ε x)
  | .field s x f => fieldIV (fdk P s f) (ε x)
  | .extract x i => tupIV (ε x) i
  | .nilCheck x => nilIV (ε x)
  | .slice t x lo hi mx => sliceIV (isStr P t) (slk P t) (ε x) (lo.map ε) (hi.map ε) (mx.map ε)
  | .convert s d x => bif (P.underlying s).isSome then convIV (ik P d) (isStr P d) (ε x) else .bad
  | .box _ x => boxIV (ε x)
  | .alloc e => allocIV (zk P e)
  | .build t ps => buildIV (flk P t) (ark P t) (zk P t) (ps.toList.map fun (i, x) => (i, ε x))
  | .buildSlice t n ps => buildSliceIV (slk P t) (elemZ P t) n (ps.toList.map fun (i, x) => (i, ε x))
  | .makeSlice t l c => makeIV (slk P t) (elemZ P t) (ε l) (ε c)
  | .makeFunc fn a c => .ok (.fn fn (a.toList.map ε) (c.toList.map ε))
  | .call { callee := .builtin .len, args := ⟨[x]⟩, argTypes := ⟨[t]⟩ } => lenIV (isStr P t) (slk P t) (ark P t) (ε x)
  | .call { callee := .builtin .cap, args := ⟨[x]⟩, argTypes := ⟨[t]⟩ } => capIV (slk P t) (ε x)
  | .call { callee := .builtin .min, args := ⟨[x, y]⟩, argTypes := _ } => minIV (ε x) (ε y)
  | .call { callee := .builtin .max, args := ⟨[x, y]⟩, argTypes := _ } => maxIV (ε x) (ε y)
  | _ => .bad

/-- The abstract layer's yield is as the reading says. -/
def Meets (ρ : Nat → Nat) (R : VRes) : IRes → Prop
  | .bad => True
  | .ok v => ∃ pre, R = .ok pre (v.den ρ) ∧ pre
  | .new cs mk => ∃ pre k f, R = .new pre k f ∧ pre ∧ k.cells = cs.map (IV.den ρ) ∧ ∀ (ρ' : Nat → Nat) (n : Nat), f (ρ' n) = (mk n).den ρ'

theorem bnd_den {ρ : Nat → Nat} {x : Option IV} {d n : Nat} (h : ibnd x d = some n) : bnd (x.map (IV.den ρ)) d = some (n : Int) := by
  unfold ibnd at h
  split at h
  · cases h; rfl
  · cases h; rfl
  · cases h

theorem toNat_sub' (h l : Nat) : ((h : Int) - (l : Int)).toNat = h - l := by omega

theorem Meets.bif {ρ : Nat → Nat} {R : VRes} {c : Bool} {r : IRes} (h : c = true → Meets ρ R r) : Meets ρ R (bif c then r else .bad) := by
  cases c
  · trivial
  · exact h rfl

theorem valI_ok {P : Program} {op : Op} {ε : Operand → IV} {e : Operand → SV} {ih : IHeap} {h : Heap} {ρ : Nat → Nat} (he : ∀ x, e x = (ε x).den ρ) (hh : HD ρ ih h) :
    Meets ρ (valOp P op e h) (valI P op ε ih) := by
  have hom : ∀ o : Option Operand, o.map e = (o.map ε).map (IV.den ρ) := fun o => by cases o <;> simp [he]
  have hl : ∀ l : List Operand, l.map e = (l.map ε).map (IV.den ρ) := fun l => by rw [List.map_map]; exact List.map_congr_left fun x _ => he x
  have hp : ∀ l : List (Nat × Operand), (l.map fun (i, x) => (i, e x)) = (l.map fun (i, x) => (i, ε x)).map fun x => (x.1, x.2.den ρ) := fun l => by
    rw [List.map_map]; exact List.map_congr_left fun x _ => by simp [he]
  unfold valI
  split
  · rename_i x; exact ⟨True, by simp [valOp, he], trivial⟩
  · rename_i x; exact ⟨True, by simp [valOp, he], trivial⟩
  · rename_i c a b
    simp only [valOp, he]
    generalize ε c = cv
    unfold pickIV
    split
    · rename_i t; refine ⟨True, ?_, trivial⟩
      cases t <;> rfl
    · trivial
  · rename_i op t x y _
    simp only [valOp, he]
    generalize ε x = xv
    generalize ε y = yv
    unfold binIV
    split
    · rename_i k a k' b
      split
      · rename_i v hv
        exact binI_ok hv
      · trivial
    · split
      · rename_i v hv
        exact binS_ok hv
      · trivial
    · split
      · exact .bif fun hb => ⟨_, rfl, hb⟩
      · exact .bif fun hb => ⟨_, rfl, hb⟩
      · trivial
    · trivial
  · rename_i op _ x
    simp only [valOp, he]
    generalize ε x = xv
    unfold unIV
    split
    · exact ⟨_, rfl, trivial⟩
    · exact ⟨_, rfl, trivial⟩
    · exact ⟨_, rfl, trivial⟩
    · trivial
  · rename_i t x
    simp only [valOp, he]
    generalize ε x = xv
    unfold loadIV
    split
    · rename_i g n b off hT
      rw [hT]
      split
      · rename_i k hk
        obtain ⟨kk, hf, hc⟩ := hh.get hk
        cases g
        · refine .bif fun hb => ?_
          simp only [Nat.blt_eq] at hb
          exact ⟨off < kk.len, by simp only [IV.den, loadSV, hf, Blk.getI hc hb], by rw [Blk.lenI hc]; exact hb⟩
        · refine .bif fun hb => ?_
          simp only [Nat.ble_eq] at hb
          exact ⟨off + n ≤ kk.len, by simp only [IV.den, loadSV, hf, IV.denL_map, getN_I hc _ _ hb], by rw [Blk.lenI hc]; exact hb⟩
      · trivial
    · trivial
  · rename_i t x i
    simp only [valOp, he]
    generalize ε x = xv
    generalize ε i = iv
    unfold indexAddrIV
    split
    · rename_i kk n
      split
      · rename_i b off len sz
        split
        · rename_i q s bb hL
          refine .bif fun hb => ?_
          rw [Bool.and_eq_true, Nat.blt_eq, Nat.beq_eq] at hb
          exact ⟨_, by simp only [IV.den, indexAddrSV, hL]; rfl, by simp; omega⟩
        · trivial
      · rename_i b off
        split
        · rename_i len s hA
          refine .bif fun hb => ?_
          rw [Nat.blt_eq] at hb
          exact ⟨_, by simp only [IV.den, indexAddrSV, hA]; rfl, by simp; omega⟩
        · trivial
      · trivial
    · trivial
  · rename_i t x i
    simp only [valOp, he]
    generalize ε x = xv
    generalize ε i = iv
    unfold indexIV
    split
    · rename_i s kk n
      refine .bif fun hb => ?_
      rw [Bool.and_eq_true, Nat.blt_eq] at hb
      exact ⟨_, by simp only [IV.den, indexSV]; rfl, by simp [hb.1]; omega⟩
    · trivial
  · rename_i s x f
    simp only [valOp, he]
    generalize ε x = xv
    unfold fieldAddrIV
    split
    · rename_i off g n b o hF
      rw [hF]
      cases hb : Nat.beq n 0 with
      | true => trivial
      | false => exact ⟨_, rfl, fun e => by rw [← Nat.beq_eq, hb] at e; cases e⟩
    · trivial
  · rename_i s x f
    simp only [valOp, he]
    generalize ε x = xv
    unfold fieldIV
    split
    · rename_i off g n cs hF
      rw [hF]
      cases g
      · refine .bif fun hb => ?_
        rw [Nat.blt_eq] at hb
        exact ⟨off < (cs.map (IV.den ρ)).length, by simp only [IV.den, IV.denL_map, fieldSV, den_getD], by simpa using hb⟩
      · refine .bif fun hb => ?_
        rw [Nat.ble_eq] at hb
        exact ⟨off + n ≤ (cs.map (IV.den ρ)).length, by simp only [IV.den, IV.denL_map, fieldSV, List.map_take, List.map_drop], by simpa using hb⟩
    · trivial
  · rename_i x i
    simp only [valOp, he]
    generalize ε x = xv
    unfold tupIV
    split
    · rename_i cs
      refine .bif fun hb => ?_
      rw [Nat.blt_eq] at hb
      exact ⟨i < (cs.map (IV.den ρ)).length, by simp only [IV.den, IV.denL_map, tupSV, den_getD], by simpa using hb⟩
    · trivial
  · rename_i x
    simp only [valOp, he]
    generalize ε x = xv
    unfold nilIV
    split
    · exact ⟨_, rfl, trivial⟩
    · exact ⟨_, rfl, trivial⟩
    · trivial
  · rename_i t x lo hi mx
    simp only [valOp, hom, he]
    generalize ε x = xv
    generalize lo.map ε = lov
    generalize hi.map ε = hiv
    generalize mx.map ε = mxv
    unfold sliceIV
    split
    · rename_i m
      split
      · trivial
      · rename_i hi
        split
        · rename_i b off n sz
          split
          · rename_i q s bb l h m' hL hl hh' hm
            refine .bif fun hb => ?_
            simp only [Bool.and_eq_true, Bool.or_eq_true, Nat.beq_eq, Nat.ble_eq, Nat.blt_eq] at hb
            have e1 := bnd_den (ρ := ρ) hl
            have e2 := bnd_den (ρ := ρ) hh'
            have e3 := bnd_den (ρ := ρ) hm
            simp only [Option.map_some] at e2 e3
            refine ⟨_, by simp only [Option.map_some, IV.den, sliceSV, e1, e2, e3, hL, Int.toNat_natCast, toNat_sub']; rfl, by omega⟩
          · trivial
        · trivial
    · split
      · rename_i s
        split
        · rename_i l h hl hh'
          refine .bif fun hb => ?_
          simp only [Bool.and_eq_true, Nat.ble_eq] at hb
          have e1 := bnd_den (ρ := ρ) hl
          have e2 := bnd_den (ρ := ρ) hh'
          refine ⟨isStr P t = true ∧ (0 : Int) ≤ (l : Int) ∧ (l : Int) ≤ (h : Int) ∧ (h : Int) ≤ s.size, by simp only [Option.map_none, IV.den, sliceSV, e1, e2, Int.toNat_natCast, toNat_sub'], hb.1.1, by omega, by omega, by omega⟩
        · trivial
      · split
        · rename_i q l h hL hl hh'
          refine .bif fun hb => ?_
          simp only [Bool.and_eq_true, Nat.ble_eq] at hb
          have e1 := bnd_den (ρ := ρ) hl
          have e2 := bnd_den (ρ := ρ) hh'
          refine ⟨(0 : Int) ≤ (l : Int) ∧ (l : Int) ≤ (h : Int) ∧ (h : Int) ≤ 0, by simp only [Option.map_none, IV.den, sliceSV, e1, e2, hL], by omega⟩
        · trivial
      · rename_i b off n sz
        split
        · rename_i q s bb l h hL hl hh'
          refine .bif fun hb => ?_
          simp only [Bool.and_eq_true, Bool.or_eq_true, Nat.beq_eq, Nat.ble_eq, Nat.blt_eq] at hb
          have e1 := bnd_den (ρ := ρ) hl
          have e2 := bnd_den (ρ := ρ) hh'
          refine ⟨_, by simp only [Option.map_none, IV.den, sliceSV, e1, e2, hL, Int.toNat_natCast, toNat_sub']; rfl, by omega⟩
        · trivial
      · trivial
  · rename_i s d x
    simp only [valOp, he]
    generalize ε x = xv
    refine .bif fun hb => ?_
    rw [hb]
    simp only [cond_true]
    unfold convIV
    split
    · split
      · rename_i k hk; rw [hk]; exact ⟨_, rfl, trivial⟩
      · trivial
    · refine .bif fun hb => ?_
      exact ⟨_, rfl, hb⟩
    · trivial
  · rename_i _ x
    simp only [valOp, he]
    generalize ε x = xv
    unfold boxIV
    split
    · rename_i cs hc
      refine ⟨_, _, _, by simp only [boxSV, icells_den hc]; rfl, trivial, rfl, fun _ _ => rfl⟩
    · trivial
  · rename_i t
    simp only [valOp]
    unfold allocIV
    split
    · rename_i z hz
      refine ⟨_, _, _, by simp only [allocSV, hz]; rfl, trivial, by rw [map_sc_den]; rfl, fun _ _ => rfl⟩
    · trivial
  · rename_i t ps
    simp only [valOp, hp]
    generalize (ps.toList.map fun (i, x) => (i, ε x)) = pv
    unfold buildIV
    split
    · trivial
    · rename_i z hz
      rw [hz]
      split
      · rename_i fl hF
        rw [hF]
        split
        · rename_i r hr
          have := fillIV_den ρ _ _ _ hr
          rw [map_sc_den] at this
          exact ⟨_, by simp only [buildSV, this, IV.den, IV.denL_map], trivial⟩
        · trivial
      · rename_i hF
        rw [hF]
        split
        · rename_i n s hA
          rw [hA]
          split
          · rename_i r hr
            have := fillIV_den ρ _ _ _ hr
            rw [map_sc_den] at this
            exact ⟨_, by simp only [buildSV, this, IV.den, IV.denL_map], trivial⟩
          · trivial
        · trivial
  · rename_i t n ps
    simp only [valOp, hp]
    generalize (ps.toList.map fun (i, x) => (i, ε x)) = pv
    unfold buildSliceIV
    split
    · rename_i q s bb z hL hz
      rw [hL, hz]
      split
      · rename_i r hr
        refine .bif fun hb => ?_
        simp only [Bool.and_eq_true, Nat.beq_eq, Nat.ble_eq, Nat.blt_eq] at hb
        have := fillIV_den ρ _ _ _ hr
        rw [izfill_den] at this
        exact ⟨z.length = s ∧ n * s ≤ 16777216 ∧ 0 < s, .svs (r.map (IV.den ρ)), fun b => .os b 0 n s, by simp only [buildSliceSV, this], ⟨hb.1.1, hb.1.2, hb.2⟩, rfl, fun _ _ => rfl⟩
      · trivial
    · trivial
  · rename_i t l c
    simp only [valOp, he]
    generalize ε l = lv
    generalize ε c = cv
    unfold makeIV
    split
    · rename_i q s bytes z k n k' m hL hz
      rw [hL, hz]
      refine .bif fun hb => ?_
      simp only [Bool.and_eq_true, Nat.beq_eq, Nat.ble_eq, Nat.blt_eq] at hb
      have h1 : bytes * m ≤ 281474976710656 := hb.1.1.2
      have h2 : ((bytes * m : Nat) : Int) ≤ 281474976710656 := by omega
      rw [Int.natCast_mul] at h2
      have h3 : m ≤ 9223372036854775807 := hb.1.1.1.2
      have h4 : n ≤ m := hb.1.1.1.1
      refine ⟨(0 : Int) ≤ Int.ofNat n ∧ Int.ofNat n ≤ Int.ofNat m ∧ Int.ofNat m ≤ 9223372036854775807 ∧ bytes * Int.ofNat m ≤ 281474976710656 ∧ z.length = s ∧ 0 < s, zeros z m, fun b => .os b 0 n s, rfl,
        ⟨Int.natCast_nonneg n, Int.ofNat_le.2 h4, ?_, h2, hb.1.2, hb.2⟩, ?_, fun _ _ => rfl⟩
      · show (m : Int) ≤ 9223372036854775807
        omega
      · rw [izfill_den]; exact zeros_cells _ _
    · trivial
  · rename_i fn a c
    exact ⟨True, by simp only [valOp, IV.den, IV.denL_map, hl], trivial⟩
  · rename_i x t
    simp only [valOp, he]
    generalize ε x = xv
    unfold lenIV
    split
    · split
      · rename_i q hq; rw [hq]; exact ⟨_, rfl, trivial⟩
      · trivial
    · split
      · rename_i q hq; rw [hq]; exact ⟨_, rfl, trivial⟩
      · trivial
    · exact .bif fun hb => ⟨_, rfl, hb⟩
    · split
      · rename_i q hq; rw [hq]; exact ⟨_, rfl, trivial⟩
      · trivial
    · split
      · rename_i q hq; rw [hq]; exact ⟨_, rfl, trivial⟩
      · trivial
    · trivial
  · rename_i x t
    simp only [valOp, he]
    generalize ε x = xv
    unfold capIV
    split
    · rename_i q n c hq; rw [hq]; exact ⟨_, rfl, trivial⟩
    · trivial
  · rename_i x y _
    simp only [valOp, he]
    generalize ε x = xv
    generalize ε y = yv
    unfold minIV
    split
    · exact ⟨_, rfl, trivial⟩
    · trivial
  · rename_i x y _
    simp only [valOp, he]
    generalize ε x = xv
    generalize ε y = yv
    unfold maxIV
    split
    · exact ⟨_, rfl, trivial⟩
    · trivial
  · trivial

end Go.Ab
