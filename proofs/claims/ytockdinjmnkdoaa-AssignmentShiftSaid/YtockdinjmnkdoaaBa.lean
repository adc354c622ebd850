/- The same reading, each value worked out as soon as it is there. -/
import Derived.Test.YtockdinjmnkdoaaAz
set_option linter.unusedVariables false
set_option linter.unusedSimpArgs false
namespace Go.Ab
open Go.RowKit

section
variable {α : Type}

def natK (m : Nat) (k : Nat → α) : α := match m with
  | 0 => k 0
  | n + 1 => k (n + 1)
theorem natK_eq (m : Nat) (k : Nat → α) : natK m k = k m := by cases m <;> rfl
def intK (m : Int) (k : Int → α) : α := match m with
  | .ofNat n => natK n fun n => k (.ofNat n)
  | .negSucc n => natK n fun n => k (.negSucc n)
theorem intK_eq (m : Int) (k : Int → α) : intK m k = k m := by cases m <;> simp [intK, natK_eq]
def boolK (b : Bool) (k : Bool → α) : α := match b with
  | true => k true
  | false => k false
theorem boolK_eq (b : Bool) (k : Bool → α) : boolK b k = k b := by cases b <;> rfl
def kindK (b : IntKind) (k : IntKind → α) : α := match b with
  | .i8 => k .i8 | .i16 => k .i16 | .i32 => k .i32 | .i64 => k .i64 | .u8 => k .u8 | .u16 => k .u16 | .u32 => k .u32 | .u64 => k .u64
theorem kindK_eq (b : IntKind) (k : IntKind → α) : kindK b k = k b := by cases b <;> rfl
def u8K (b : UInt8) (k : UInt8 → α) : α := natK b.toNat fun n => k (UInt8.ofNat n)
theorem u8K_eq (b : UInt8) (k : UInt8 → α) : u8K b k = k b := by simp [u8K, natK_eq]
def bytesK (l : List UInt8) (k : List UInt8 → α) : α := match l with
  | [] => k []
  | b :: r => u8K b fun b => bytesK r fun r => k (b :: r)
theorem bytesK_eq : ∀ (l : List UInt8) (k : List UInt8 → α), bytesK l k = k l
  | [], k => rfl
  | b :: r, k => by rw [bytesK, u8K_eq, bytesK_eq r]
def strK (s : ByteArray) (k : ByteArray → α) : α := match s with
  | ⟨⟨l⟩⟩ => bytesK l fun l => k ⟨⟨l⟩⟩
theorem strK_eq (s : ByteArray) (k : ByteArray → α) : strK s k = k s := by obtain ⟨⟨l⟩⟩ := s; simp [strK, bytesK_eq]
def valK (v : Value) (k : Value → α) : α := match v with
  | .int t n => kindK t fun t => intK n fun n => k (.int t n)
  | .bool b => boolK b fun b => k (.bool b)
  | .string s => strK s fun s => k (.string s)
  | .slice none 0 0 => k (.slice none 0 0)
  | v => k v
theorem valK_eq (v : Value) (k : Value → α) : valK v k = k v := by
  unfold valK
  split <;> simp [kindK_eq, intK_eq, boolK_eq, strK_eq]

mutual
def ivK : IV → (IV → α) → α
  | .any, k => k .any
  | .sc v, k => valK v fun v => k (.sc v)
  | .agg cs, k => ivLK cs fun cs => k (.agg cs)
  | .tup cs, k => ivLK cs fun cs => k (.tup cs)
  | .os b o l s, k => natK b fun b => natK o fun o => natK l fun l => natK s fun s => k (.os b o l s)
  | .op b o, k => natK b fun b => natK o fun o => k (.op b o)
  | .fn g a c, k => ivLK a fun a => ivLK c fun c => k (.fn g a c)
def ivLK : List IV → (List IV → α) → α
  | [], k => k []
  | x :: r, k => ivK x fun x => ivLK r fun r => k (x :: r)
end
mutual
theorem ivK_eq : ∀ (v : IV) (k : IV → α), ivK v k = k v
  | .any, k => rfl
  | .sc v, k => by rw [ivK, valK_eq]
  | .agg cs, k => by rw [ivK, ivLK_eq]
  | .tup cs, k => by rw [ivK, ivLK_eq]
  | .os b o l s, k => by simp only [ivK, natK_eq]
  | .op b o, k => by simp only [ivK, natK_eq]
  | .fn g a c, k => by rw [ivK, ivLK_eq, ivLK_eq]
theorem ivLK_eq : ∀ (v : List IV) (k : List IV → α), ivLK v k = k v
  | [], k => rfl
  | x :: r, k => by rw [ivLK, ivK_eq, ivLK_eq]
end

def spineK {β : Type} (l : List β) (k : List β → α) : α := match l with
  | [] => k []
  | x :: r => spineK r fun r => k (x :: r)
theorem spineK_eq {β : Type} : ∀ (l : List β) (k : List β → α), spineK l k = k l
  | [], k => rfl
  | x :: r, k => by rw [spineK, spineK_eq]

noncomputable def TT.setK (t : TT) : Nat → IV → (TT → α) → α := TT.rec (motive := fun _ => Nat → IV → (TT → α) → α) (fun i v k => k (TT.one i i v))
  (fun x l r sl sr i v k => Nat.rec (motive := fun _ => α) (k (.node v l r)) (fun j _ => Bool.rec (motive := fun _ => α) (sr (Nat.div j 2) v fun r => k (.node x l r)) (sl (Nat.div j 2) v fun l => k (.node x l r)) (Nat.beq (Nat.mod j 2) 0)) i) t
theorem TT.setK_eq : ∀ (t : TT) (i : Nat) (v : IV) (k : TT → α), t.setK i v k = k (t.set i v) := by
  intro t
  induction t with
  | nil => intro i v k; rfl
  | node x l r ihl ihr =>
    intro i v k
    cases i with
    | zero => rfl
    | succ j =>
      rw [TT.set_succ]
      show Bool.rec (motive := fun _ => α) (r.setK (j / 2) v fun r => k (.node x l r)) (l.setK (j / 2) v fun l => k (.node x l r)) (Nat.beq (j % 2) 0) = _
      cases Nat.beq (j % 2) 0
      · exact ihr _ _ _
      · exact ihl _ _ _

/-- Room for so many temporaries. -/
def TT.full : Nat → TT
  | 0 => .nil
  | d + 1 => .node .any (TT.full d) (TT.full d)

def iupdK : IHeap → Nat → List IV → (IHeap → α) → α
  | [], _, _, k => k []
  | (c, x) :: r, b, y, k => bif Nat.beq c b then k ((c, y) :: r) else iupdK r b y fun r => k ((c, x) :: r)
theorem iupdK_eq : ∀ (h : IHeap) (b : Nat) (y : List IV) (k : IHeap → α), iupdK h b y k = k (iupd h b y)
  | [], _, _, k => rfl
  | (c, x) :: r, b, y, k => by
    simp only [iupdK, iupd, iupdK_eq]
    cases Nat.beq c b <;> rfl
def idelK : IHeap → Nat → (IHeap → α) → α
  | [], _, k => k []
  | (c, x) :: r, b, k => bif Nat.beq c b then idelK r b k else idelK r b fun r => k ((c, x) :: r)
theorem idelK_eq : ∀ (h : IHeap) (b : Nat) (k : IHeap → α), idelK h b k = k (idel h b)
  | [], _, k => rfl
  | (c, x) :: r, b, k => by
    simp only [idelK, idel, idelK_eq]
    cases Nat.beq c b <;> rfl
def iinsK : IHeap → Nat → List IV → (IHeap → α) → α
  | [], b, y, k => k [(b, y)]
  | (c, x) :: r, b, y, k => bif Nat.ble c b then k ((b, y) :: (c, x) :: r) else iinsK r b y fun r => k ((c, x) :: r)
theorem iinsK_eq : ∀ (h : IHeap) (b : Nat) (y : List IV) (k : IHeap → α), iinsK h b y k = k (iins h b y)
  | [], _, _, k => rfl
  | (c, x) :: r, b, y, k => by
    simp only [iinsK, iins, iinsK_eq]
    cases Nat.ble c b <;> rfl
end

noncomputable def putI (t : TT) (h : IHeap) (d : Option Tmp) (v : IV) : Option IS := match d with
  | some d => ivK v fun v => TT.setK t d v fun t => some ⟨t, h⟩
  | none => some ⟨t, h⟩
theorem putI_eq (t : TT) (h : IHeap) (d : Option Tmp) (v : IV) : putI t h d v = some ((⟨t, h⟩ : IS).put d v) := by
  cases d with
  | none => rfl
  | some d => simp only [putI, ivK_eq, TT.setK_eq]; rfl

noncomputable def newI (t : TT) (h : IHeap) (nm : Nat) (cs : List IV) (d : Option Tmp) (mk : Nat → IV) : Option IS :=
  ivLK cs fun cs => iinsK h nm cs fun h => putI t h d (mk nm)
theorem newI_eq (t : TT) (h : IHeap) (nm : Nat) (cs : List IV) (d : Option Tmp) (mk : Nat → IV) : newI t h nm cs d mk = some ((⟨t, iins h nm cs⟩ : IS).put d (mk nm)) := by
  simp only [newI, ivLK_eq, iinsK_eq, putI_eq]

noncomputable def appF (nm : Nat) (L : Option (TypeId × Nat × Nat)) (Z : Option (List Value)) (s x : IV) (dst : Option Tmp) (S : IS) : Option IS :=
  match L, Z with
  | some (_, size, bytes), some z => match srcI size x S.h with
    | some (n, cs) => bif cs.all isingle && Nat.beq z.length size && Nat.blt 0 size then
      (match s with
      | .sc (.slice none 0 0) => bif Nat.ble (n * bytes) 140737488355328 && Nat.ble n 140737488355328 then
          (match n with
          | 0 => putI S.t S.h dst (.sc (.slice none 0 0))
          | m + 1 => newI S.t S.h nm cs dst fun nm => .os nm 0 (m + 1) size)
          else none
      | .os b off len sz => match ifind S.h b with
        | some k => bif Nat.beq off 0 && Nat.beq sz size && Nat.beq (len * sz) k.length && Nat.ble ((len + n) * bytes) 140737488355328 && Nat.ble (len + n) 140737488355328 then
            ivLK cs fun cs => spineK (k ++ cs) fun l => idelK S.h b fun h => iinsK h nm l fun h => putI S.t h dst (.os nm 0 (len + n) sz) else none
        | none => none
      | _ => none) else none
    | none => none
  | _, _ => none

theorem appF_eq (nm : Nat) (L : Option (TypeId × Nat × Nat)) (Z : Option (List Value)) (s x : IV) (dst : Option Tmp) (S : IS) : appF nm L Z s x dst S = appI nm L Z s x dst S := by
  obtain ⟨t, h⟩ := S
  unfold appF appI
  simp only [putI_eq, newI_eq, ivLK_eq, spineK_eq, idelK_eq, iinsK_eq]
  rfl

noncomputable def appZF (nm : Nat) (L : Option (TypeId × Nat × Nat)) (Z : Option (List Value)) (s x : IV) (dst : Option Tmp) (S : IS) : Option IS :=
  match L, Z, s, x with
  | some (_, size, bytes), some z, .sc (.slice none 0 0), .sc (.int .i64 (.ofNat n)) => bif Nat.beq z.length size && Nat.blt 0 size && Nat.blt 0 n && Nat.ble (n * bytes) 140737488355328 && Nat.ble n 140737488355328 then
      newI S.t S.h nm (izfill z n) dst fun nm => .os nm 0 n size else none
  | _, _, _, _ => none

theorem appZF_eq (nm : Nat) (L : Option (TypeId × Nat × Nat)) (Z : Option (List Value)) (s x : IV) (dst : Option Tmp) (S : IS) : appZF nm L Z s x dst S = appZI nm L Z s x dst S := by
  obtain ⟨t, h⟩ := S
  unfold appZF appZI
  simp only [newI_eq]
  rfl

def cutK {α : Type} (s : IV) (h : IHeap) (k : IHeap → α) : α := match s with
  | .os b _ len sz => match ifind h b with
    | some c => bif Nat.blt (len * sz) c.length then spineK (c.take (len * sz)) fun c => iupdK h b c k else k h
    | none => k h
  | _ => k h
theorem cutK_eq {α : Type} (s : IV) (h : IHeap) (k : IHeap → α) : cutK s h k = k (cutI s h) := by
  unfold cutK cutI
  simp only [spineK_eq, iupdK_eq]
  cases s with
  | os b o len sz =>
    simp only
    cases ifind h b with
    | none => rfl
    | some c =>
      simp only
      cases Nat.blt (len * sz) c.length <;> rfl
  | _ => rfl

noncomputable def effF (P : Program) (call : CallI) (nm : Nat) (op : Op) (dst : Option Tmp) (S : IS) : Option IS :=
  match op with
  | .store t a v => match tk P t, S.ev a, icells (S.ev v) with
    | some (_, n), .op b off, some cs => match ifind S.h b with
      | some k => bif Nat.beq cs.length n && Nat.ble (off + n) k.length then ivLK cs fun cs => spineK (isetAll k off cs) fun l => iupdK S.h b l fun h => putI S.t h dst .any else none
      | none => none
    | _, _, _ => none
  | .call ⟨.value f, args, _⟩ => match S.ev f with
    | .fn (.func g) first captured => ivLK (first ++ args.toList.map S.ev ++ captured) fun l => match call nm g l S.h with
      | some (r, h') => putI S.t h' dst r
      | none => none
    | _ => none
  | .call ⟨.builtin .append, ⟨[s, x]⟩, ⟨[st, xt]⟩⟩ => bif notInt P xt then cutK (S.ev s) S.h fun h => appF nm (slk P st) (elemZ P st) (S.ev s) (S.ev x) dst ⟨S.t, h⟩
      else bif (ik P xt).isSome then appZF nm (slk P st) (elemZ P st) (S.ev s) (S.ev x) dst S else none
  | _ => none

theorem effF_eq (P : Program) (call : CallI) (nm : Nat) (op : Op) (dst : Option Tmp) (S : IS) : effF P call nm op dst S = effI P call nm op dst S := by
  obtain ⟨t, h⟩ := S
  unfold effF effI
  split <;> simp only [putI_eq, ivLK_eq, spineK_eq, iupdK_eq, appF_eq, appZF_eq, cutK_eq] <;> rfl

noncomputable def stepF (P : Program) (call : CallI) (N nm : Nat) (o : Oper) (S : IS) : Option IS :=
  bif dOk N o.dst then
    match valI P o.op S.ev S.h with
    | .ok v => putI S.t S.h o.dst v
    | .new cs mk => bif stX o.op then none else newI S.t S.h nm cs o.dst mk
    | .bad => effF P call nm o.op o.dst S
  else none

theorem stepF_eq (P : Program) (call : CallI) (N nm : Nat) (o : Oper) (S : IS) : stepF P call N nm o S = stepI P call N nm o S := by
  unfold stepF stepI
  simp only [putI_eq, newI_eq, effF_eq]
  rfl

noncomputable def skipF (N : Nat) (d : Option Tmp) (S : IS) : Option IS := bif dOk N d then putI S.t S.h d (.sc undef) else none
theorem skipF_eq (N : Nat) (d : Option Tmp) (S : IS) : skipF N d S = skipI N d S := by
  unfold skipF skipI
  simp only [putI_eq]

noncomputable def gF (P : Program) (call : CallI) (N : Nat) (ops : List Oper) (nm : Nat) (o : Oper) (S : IS) : Option IS :=
  match o.guard with
  | none => stepF P call N nm o S
  | some (j, want) => match gdst ops j with
    | none => none
    | some t => match S.get t with
      | .sc (.bool b) => bif b == want then stepF P call N nm o S else skipF N o.dst S
      | .sc (.tuple _) => skipF N o.dst S
      | _ => none
theorem gF_eq (P : Program) (call : CallI) (N : Nat) (ops : List Oper) (nm : Nat) (o : Oper) (S : IS) : gF P call N ops nm o S = gI P call N ops nm o S := by
  unfold gF gI
  simp only [stepF_eq, skipF_eq]
  rfl

noncomputable def seqF (P : Program) (call : CallI) (N sz : Nat) (ops : List Oper) : List Oper → Nat → IS → Option IS
  | [], _, S => some S
  | o :: r, nm, S => match gF P call N ops nm o S with
    | some S1 => natK (nm + sz) fun nm => seqF P call N sz ops r nm S1
    | none => none
theorem seqF_eq (P : Program) (call : CallI) (N sz : Nat) (ops : List Oper) : ∀ (l : List Oper) (nm : Nat) (S : IS), seqF P call N sz ops l nm S = seqI P call N sz ops l nm S
  | [], _, _ => rfl
  | o :: r, nm, S => by
    simp only [seqF, seqI, gF_eq, natK_eq]
    cases gI P call N ops nm o S with
    | none => rfl
    | some S1 => exact seqF_eq P call N sz ops r _ S1

noncomputable def oneF (P : Program) (call : CallI) (N sz : Nat) (ops : List Oper) (c0 : Nat) (nd : NodeI) (k : Nat) : Option NodeI := match ops[k]? with
  | some o => natK (c0 + k * sz) fun nm => match gF P call N ops nm o nd.2 with
    | some S' => spineK (nd.1.setIfInBounds k true).toList fun l => some (⟨l⟩, S')
    | none => none
  | none => none
theorem oneF_eq (P : Program) (call : CallI) (N sz : Nat) (ops : List Oper) (c0 : Nat) (nd : NodeI) (k : Nat) : oneF P call N sz ops c0 nd k = oneI P call N sz ops c0 nd k := by
  unfold oneF oneI
  simp only [natK_eq, gF_eq, spineK_eq]
  rfl

noncomputable def nextF (P : Program) (call : CallI) (N sz : Nat) (ops : List Oper) (c0 : Nat) (nd : NodeI) : Option (List NodeI) :=
  spineK (Region.ready .any ops.toArray nd.1) fun rd => match rd with
  | [] => none
  | k :: r => match (bif cleanX ops then (k :: r).find? (eagerI ops nd.1) else none) with
    | some j => match oneF P call N sz ops c0 nd j with
      | some x => some [x]
      | none => none
    | none => allI (oneF P call N sz ops c0 nd) (k :: r)
theorem nextF_eq (P : Program) (call : CallI) (N sz : Nat) (ops : List Oper) (c0 : Nat) (nd : NodeI) : nextF P call N sz ops c0 nd = nextI P call N sz ops c0 nd := by
  have : oneF P call N sz ops c0 nd = oneI P call N sz ops c0 nd := funext fun k => oneF_eq P call N sz ops c0 nd k
  unfold nextF nextI
  simp only [spineK_eq, this]
  rfl

noncomputable def levelF (P : Program) (call : CallI) (N sz : Nat) (ops : List Oper) (c0 : Nat) : List NodeI → Option (List NodeI)
  | [] => some []
  | nd :: r => match nextF P call N sz ops c0 nd with
    | some l => match levelF P call N sz ops c0 r with
      | some m => spineK (l.foldr ddI m) some
      | none => none
    | none => none
theorem levelF_eq (P : Program) (call : CallI) (N sz : Nat) (ops : List Oper) (c0 : Nat) : ∀ l : List NodeI, levelF P call N sz ops c0 l = levelI P call N sz ops c0 l
  | [] => rfl
  | nd :: r => by
    simp only [levelF, levelI, nextF_eq, levelF_eq P call N sz ops c0 r, spineK_eq]
    rfl

noncomputable def exploreF (P : Program) (call : CallI) (N sz : Nat) (ops : List Oper) (c0 : Nat) : Nat → List NodeI → Option IS
  | 0, [nd] => bif (Region.ready .any ops.toArray nd.1).isEmpty then some nd.2 else none
  | 0, _ => none
  | f + 1, l => match levelF P call N sz ops c0 l with
    | some m => exploreF P call N sz ops c0 f m
    | none => none
theorem exploreF_eq (P : Program) (call : CallI) (N sz : Nat) (ops : List Oper) (c0 : Nat) : ∀ (f : Nat) (l : List NodeI), exploreF P call N sz ops c0 f l = exploreI P call N sz ops c0 f l
  | 0, [] => rfl
  | 0, [nd] => rfl
  | 0, _ :: _ :: _ => rfl
  | f + 1, l => by
    simp only [exploreF, exploreI, levelF_eq]
    cases levelI P call N sz ops c0 l with
    | none => rfl
    | some m => exact exploreF_eq P call N sz ops c0 f m

noncomputable def regF (P : Program) (call : CallI) (N sz c0 : Nat) (ops : List Oper) (draw : Bool) (S : IS) : Option IS :=
  match draw with
  | true => (match lexOkX ops with
    | true => seqF P call N sz ops ops c0 S
    | false => exploreF P call N sz ops c0 ops.length [(Array.replicate ops.length false, S)])
  | false => seqF P call N sz ops ops c0 S
theorem regF_eq (P : Program) (call : CallI) (N sz c0 : Nat) (ops : List Oper) (draw : Bool) (S : IS) : regF P call N sz c0 ops draw S = regI P call N sz c0 ops draw S := by
  unfold regF regI
  simp only [seqF_eq, exploreF_eq]
  cases draw
  · rfl
  · cases lexOkX ops <;> rfl

noncomputable def execF (P : Program) (call : CallI) (N sz hi : Nat) : Nat → Code → Nat → IS → Option (IX × Nat × IS)
  | 0, _, _, _ => none
  | f + 1, .skip, c, S => some (.nrm, c, S)
  | f + 1, .exit i, c, S => some (.ext i, c, S)
  | f + 1, .ret, c, S => some (.rtn, c, S)
  | f + 1, .region _ ⟨ops⟩ draw, c, S => natK (c + ops.length * sz) fun c' => bif Nat.ble c' hi then
      (match regF P call N sz c ops draw S with
      | some S' => some (.nrm, c', S')
      | none => none) else none
  | f + 1, .seq x y, c, S => match execF P call N sz hi f x c S with
    | some (.nrm, c', S') => execF P call N sz hi f y c' S'
    | r => r
  | f + 1, .cond o x y, c, S => match S.ev o with
    | .sc (.bool true) => execF P call N sz hi f x c S
    | .sc (.bool false) => execF P call N sz hi f y c S
    | _ => none
  | f + 1, .block i x, c, S => match execF P call N sz hi f x c S with
    | some (.ext j, c', S') => bif Nat.beq j i then some (.nrm, c', S') else some (.ext j, c', S')
    | r => r
  | f + 1, .loop x, c, S => match execF P call N sz hi f x c S with
    | some (.nrm, c', S') => execF P call N sz hi f (.loop x) c' S'
    | r => r
  | _ + 1, _, _, _ => none

theorem execF_eq (P : Program) (call : CallI) (N sz hi : Nat) : ∀ (f : Nat) (code : Code) (c : Nat) (S : IS), execF P call N sz hi f code c S = execI P call N sz hi f code c S := by
  intro f
  induction f with
  | zero => intro code c S; rfl
  | succ f ih =>
    intro code c S
    cases code with
    | region id ops draw => obtain ⟨ops⟩ := ops; simp only [execF, execI, natK_eq, regF_eq]; rfl
    | _ => first | rfl | (simp only [execF, execI, ih]; rfl)

noncomputable def resF (P : Program) (S : IS) (rs : List ResultVar) : Option (IV × IHeap) := match resI P S rs with
  | some vs => ivK (tupI vs) fun r => some (r, S.h)
  | none => none

/-- The reading of a call, strictly. -/
noncomputable def runF (P : Program) (fuel : Nat) : Nat → CallI
  | 0, _, _, _, _ => none
  | d + 1, lo, g, args, h => match P.funcs[g]? with
    | none => none
    | some fn => match fn.body with
      | none => none
      | some code => bif fn.name == "runtime.NumGoroutine" then none else bif Nat.ble args.length fn.ntmps then
        natK fn.ntmps fun N => natK (szI d) fun sz => natK (lo + szI (d + 1)) fun hi =>
        (match execF P (runF P fuel d) N sz hi fuel code lo ⟨TT.args args 0 .nil, h⟩ with
        | some (.nrm, _, S') => resF P S' fn.results.toList
        | some (.rtn, _, S') => resF P S' fn.results.toList
        | _ => none) else none

theorem runF_eq (P : Program) (fuel : Nat) : ∀ d, runF P fuel d = runI P fuel d
  | 0 => rfl
  | d + 1 => by
    funext lo g args h
    have ih := runF_eq P fuel d
    simp only [runF, runI, natK_eq, ih, execF_eq, resF, ivK_eq]
    rfl

noncomputable def readsF (P : Program) (fuel d : Nat) (g : FuncId) (args : List Value) (b : Bool) : Bool := match runF P fuel d 0 g (args.map .sc) [] with
  | some (.sc (.bool c), _) => c == b
  | _ => false

/-- **A call that reads so is so.** -/
theorem pcall_of_readsF {P : Program} (hm : P.follows .mixedOrders = true) {fuel d : Nat} {g : FuncId} {args : List Value} {b : Bool} (h : readsF P fuel d g args b = true) : PCall P g (args.map .sc) (.sc (.bool b)) := by
  refine pcall_of_reads (fuel := fuel) (d := d) hm ?_
  unfold readsI
  unfold readsF at h
  rw [runF_eq] at h
  exact h

end Go.Ab
