/- The abstract layer, part Z4. -/
import Derived.Test.YtmcmphmhjikgkaaGreatDoorZ3
set_option linter.unusedSectionVars false
set_option linter.unusedVariables false
set_option linter.unusedSimpArgs false
/-! Av: A reading of the abstract layer that can be carried out: values with names for blocks; what each operation yields. -/
namespace Go.Ab
open Go.RowKit
variable [Gl]
inductive IV where
  | any
  | sc (v : Value)
  | agg (cs : List IV)
  | tup (cs : List IV)
  | os (b off len sz : Nat)
  | op (b off : Nat)
  | fn (g : Fn) (first captured : List IV)
  | gv (g : Nat)
  | mp (b : Nat)
  | mpv (l : List (Value × Value))
instance : Inhabited IV := ⟨.any⟩
mutual
def IV.den (ρ : Nat → Nat) : IV → SV
  | .any => .any
  | .sc v => .sc v
  | .agg cs => .agg (IV.denL ρ cs)
  | .tup cs => .tup (IV.denL ρ cs)
  | .os b off len sz => .os (ρ b) off len sz
  | .op b off => .op (ρ b) off
  | .fn g a c => .fn g (IV.denL ρ a) (IV.denL ρ c)
  | .gv g => Gl.gl g
  | .mp b => .mp (ρ b)
  | .mpv _ => .any
def IV.denL (ρ : Nat → Nat) : List IV → List SV
  | [] => []
  | x :: r => IV.den ρ x :: IV.denL ρ r
end
theorem IV.denL_map (ρ : Nat → Nat) : ∀ l, IV.denL ρ l = l.map (IV.den ρ)
  | [] => rfl
  | x :: r => by rw [IV.denL, IV.denL_map ρ r]; rfl
theorem den_getD (ρ : Nat → Nat) (l : List IV) (i : Nat) : (l.map (IV.den ρ)).getD i .any = (l.getD i .any).den ρ := by
  simp only [List.getD_eq_getElem?_getD, List.getElem?_map]
  cases l[i]? <;> simp [IV.den]
abbrev IHeap := List (Nat × List IV)
def ifind : IHeap → Nat → Option (List IV)
  | [], _ => none
  | (c, k) :: r, b => bif Nat.beq c b then some k else ifind r b
def iupd : IHeap → Nat → List IV → IHeap
  | [], _, _ => []
  | (c, k') :: r, b, k => bif Nat.beq c b then (c, k) :: r else (c, k') :: iupd r b k
def idel : IHeap → Nat → IHeap
  | [], _ => []
  | (c, k') :: r, b => bif Nat.beq c b then idel r b else (c, k') :: idel r b
def iins : IHeap → Nat → List IV → IHeap
  | [], b, k => [(b, k)]
  | (c, k') :: r, b, k => bif Nat.ble c b then (b, k) :: (c, k') :: r else (c, k') :: iins r b k
theorem ifind_mem {h : IHeap} {b : Nat} {k : List IV} (hf : ifind h b = some k) : (b, k) ∈ h := by
  induction h with
  | nil => cases hf
  | cons x r ih =>
    obtain ⟨c, k'⟩ := x
    simp only [ifind] at hf
    cases hb : Nat.beq c b with
    | true => rw [hb] at hf; rw [Nat.beq_eq] at hb; subst hb; cases hf; exact List.mem_cons_self
    | false => rw [hb] at hf; exact List.mem_cons_of_mem _ (ih hf)
theorem mem_iins {h : IHeap} {b : Nat} {k : List IV} {x : Nat × List IV} : x ∈ iins h b k ↔ x = (b, k) ∨ x ∈ h := by
  induction h with
  | nil => simp [iins]
  | cons y r ih =>
    obtain ⟨c, k'⟩ := y
    simp only [iins]
    cases Nat.ble c b with
    | true => simp
    | false =>
      simp only [cond_false, List.mem_cons, ih]
      exact ⟨fun x => x.elim (fun x => .inr (.inl x)) (fun x => x.elim .inl (fun x => .inr (.inr x))), fun x => x.elim (fun x => .inr (.inl x)) (fun x => x.elim .inl (fun x => .inr (.inr x)))⟩
theorem mem_idel {h : IHeap} {b : Nat} {x : Nat × List IV} : x ∈ idel h b ↔ x ∈ h ∧ x.1 ≠ b := by
  induction h with
  | nil => simp [idel]
  | cons y r ih =>
    obtain ⟨c, k'⟩ := y
    simp only [idel]
    cases hb : Nat.beq c b with
    | true =>
      rw [Nat.beq_eq] at hb
      simp only [cond_true, ih, List.mem_cons]
      constructor
      · rintro ⟨h1, h2⟩; exact ⟨.inr h1, h2⟩
      · rintro ⟨h1 | h1, h2⟩
        · subst h1; exact absurd hb h2
        · exact ⟨h1, h2⟩
    | false =>
      have hb' : c ≠ b := fun e => by rw [← Nat.beq_eq, hb] at e; cases e
      simp only [cond_false, List.mem_cons, ih]
      constructor
      · rintro (h1 | h1)
        · subst h1; exact ⟨.inl rfl, hb'⟩
        · exact ⟨.inr h1.1, h1.2⟩
      · rintro ⟨h1 | h1, h2⟩
        · exact .inl h1
        · exact .inr ⟨h1, h2⟩
theorem mem_iupd {h : IHeap} {b : Nat} {k : List IV} {x : Nat × List IV} (hx : x ∈ iupd h b k) : x = (b, k) ∨ x ∈ h := by
  induction h with
  | nil => cases hx
  | cons y r ih =>
    obtain ⟨c, k'⟩ := y
    simp only [iupd] at hx
    cases hb : Nat.beq c b with
    | true =>
      rw [hb] at hx
      rw [Nat.beq_eq] at hb
      subst hb
      rcases List.mem_cons.1 hx with hx | hx
      · exact .inl hx
      · exact .inr (List.mem_cons_of_mem _ hx)
    | false =>
      rw [hb] at hx
      rcases List.mem_cons.1 hx with hx | hx
      · exact .inr (hx ▸ List.mem_cons_self)
      · exact (ih hx).imp id (List.mem_cons_of_mem _)
def INd (h : IHeap) : Prop := (h.map (·.1)).Nodup
theorem iupd_fst (h : IHeap) (b : Nat) (k : List IV) : (iupd h b k).map (·.1) = h.map (·.1) := by
  induction h with
  | nil => rfl
  | cons y r ih =>
    obtain ⟨c, k'⟩ := y
    simp only [iupd]
    cases Nat.beq c b <;> simp [ih]
theorem mem_iupd_iff {h : IHeap} (hn : INd h) {b : Nat} {k k0 : List IV} (hb : (b, k0) ∈ h) {x : Nat × List IV} : x ∈ iupd h b k ↔ x = (b, k) ∨ (x ∈ h ∧ x.1 ≠ b) := by
  induction h with
  | nil => cases hb
  | cons y r ih =>
    obtain ⟨c, k'⟩ := y
    unfold INd at hn
    rw [List.map_cons, List.nodup_cons] at hn
    simp only [iupd]
    cases hcb : Nat.beq c b with
    | true =>
      rw [Nat.beq_eq] at hcb
      subst hcb
      simp only [cond_true, List.mem_cons]
      constructor
      · rintro (h1 | h1)
        · exact .inl h1
        · exact .inr ⟨.inr h1, fun e => hn.1 (List.mem_map.2 ⟨x, h1, e⟩)⟩
      · rintro (h1 | ⟨h1 | h1, h2⟩)
        · exact .inl h1
        · subst h1; exact absurd rfl h2
        · exact .inr h1
    | false =>
      have hne : c ≠ b := fun e => by rw [← Nat.beq_eq, hcb] at e; cases e
      have hb' : (b, k0) ∈ r := by
        rcases List.mem_cons.1 hb with h1 | h1
        · cases h1; exact absurd rfl hne
        · exact h1
      simp only [cond_false, List.mem_cons, ih hn.2 hb']
      constructor
      · rintro (h1 | h1 | h1)
        · subst h1; exact .inr ⟨.inl rfl, hne⟩
        · exact .inl h1
        · exact .inr ⟨.inr h1.1, h1.2⟩
      · rintro (h1 | ⟨h1 | h1, h2⟩)
        · exact .inr (.inl h1)
        · exact .inl h1
        · exact .inr (.inr ⟨h1, h2⟩)
/-! ### the heap as it is read -/
def mapOf : List IV → Option (List (Value × Value))
  | [.mpv l] => some l
  | _ => none
def plainI (cs : List IV) : List IV := match mapOf cs with
  | some _ => []
  | none => cs
def IsB (ρ : Nat → Nat) (k : Blk) (cs : List IV) : Prop := k.cells = (plainI cs).map (IV.den ρ) ∧ ∀ l, mapOf cs = some l → k = .mp l
theorem plainI_none {cs : List IV} (h : mapOf cs = none) : plainI cs = cs := by unfold plainI; rw [h]
theorem IsB.of {ρ : Nat → Nat} {k : Blk} {cs : List IV} (h : mapOf cs = none) (hk : k.cells = cs.map (IV.den ρ)) : IsB ρ k cs := ⟨by rw [plainI_none h]; exact hk, fun l hl => by rw [h] at hl; cases hl⟩
theorem IsB.cells {ρ : Nat → Nat} {k : Blk} {cs : List IV} (h : mapOf cs = none) (hk : IsB ρ k cs) : k.cells = cs.map (IV.den ρ) := by rw [← plainI_none h]; exact hk.1
theorem IsB.mk {ρ : Nat → Nat} (l : List (Value × Value)) : IsB ρ (.mp l) [.mpv l] := ⟨rfl, fun l' h => by cases h; rfl⟩
theorem plainI_mem {cs : List IV} {c : IV} (h : c ∈ plainI cs) : c ∈ cs := by
  unfold plainI at h
  split at h
  · cases h
  · exact h
def ifindC (h : IHeap) (b : Nat) : Option (List IV) := match ifind h b with
  | some k => match mapOf k with
    | some _ => none
    | none => some k
  | none => none
theorem ifindC_raw {h : IHeap} {b : Nat} {k : List IV} (hf : ifindC h b = some k) : ifind h b = some k ∧ mapOf k = none := by
  unfold ifindC at hf
  split at hf
  · rename_i k' hk
    split at hf
    · cases hf
    · rename_i hm; cases hf; exact ⟨hk, hm⟩
  · cases hf
structure HD (ρ : Nat → Nat) (ih : IHeap) (h : Heap) : Prop where
  nd : Nd h
  ind : INd ih
  inj : ∀ x ∈ ih, ∀ y ∈ ih, ρ x.1 = ρ y.1 → x.1 = y.1
  back : ∀ b, h.has b → ∃ x ∈ ih, ρ x.1 = b
  find : ∀ x ∈ ih, ∃ k, h.find (ρ x.1) = some k ∧ IsB ρ k x.2
theorem HD.get {ρ : Nat → Nat} {ih : IHeap} {h : Heap} (H : HD ρ ih h) {n : Nat} {cs : List IV} (hf : ifindC ih n = some cs) : ∃ k, h.find (ρ n) = some k ∧ k.cells = cs.map (IV.den ρ) := by
  obtain ⟨k, h1, h2⟩ := H.find _ (ifind_mem (ifindC_raw hf).1)
  exact ⟨k, h1, h2.cells (ifindC_raw hf).2⟩
theorem HD.getM {ρ : Nat → Nat} {ih : IHeap} {h : Heap} (H : HD ρ ih h) {n : Nat} {cs : List IV} {l : List (Value × Value)} (hf : ifind ih n = some cs) (hm : mapOf cs = some l) : h.find (ρ n) = some (.mp l) := by
  obtain ⟨k, h1, h2⟩ := H.find _ (ifind_mem hf)
  rw [h1, h2.2 l hm]
theorem Blk.getI {k : Blk} {cs : List IV} {ρ : Nat → Nat} (hc : k.cells = cs.map (IV.den ρ)) {i : Nat} (hi : i < cs.length) : k.get i = (cs.getD i .any).den ρ := by
  rw [get_of_cells hc (by simpa using hi), den_getD]
theorem Blk.lenI {k : Blk} {cs : List IV} {ρ : Nat → Nat} (hc : k.cells = cs.map (IV.den ρ)) : k.len = cs.length := by
  rw [← Blk.length_cells, hc, List.length_map]
theorem getN_I {k : Blk} {cs : List IV} {ρ : Nat → Nat} (hc : k.cells = cs.map (IV.den ρ)) : ∀ n off, off + n ≤ cs.length → getN k off n = ((cs.drop off).take n).map (IV.den ρ)
  | 0, off, _ => by simp [getN]
  | n + 1, off, h => by
    have hlt : off < cs.length := by omega
    rw [getN, getN_I hc n (off + 1) (by omega), Blk.getI hc hlt]
    rw [List.drop_eq_getElem_cons hlt, List.take_succ_cons, List.map_cons, getD_list _ _ _ hlt]
/-! ### operations -/
inductive IRes where
  | bad
  | ok (v : IV)
  | new (cs : List IV) (mk : Nat → IV)
def isingle : IV → Bool
  | .sc (.agg _) => false
  | .sc (.tuple _) => false
  | .sc _ => true
  | .os _ _ _ _ => true
  | .op _ _ => true
  | .fn _ _ _ => true
  | .mp _ => true
  | _ => false
theorem single_den (ρ : Nat → Nat) (v : IV) (h : isingle v = true) : single (v.den ρ) = true := by
  cases v with
  | sc x => cases x <;> first | rfl | cases h
  | gv g => cases h
  | mpv l => cases h
  | any => cases h
  | agg c => cases h
  | tup c => cases h
  | _ => rfl
theorem all_single_den (ρ : Nat → Nat) (l : List IV) (h : l.all isingle = true) : (l.map (IV.den ρ)).all single = true := by
  rw [List.all_eq_true] at *
  intro x hx
  obtain ⟨v, hv, rfl⟩ := List.mem_map.1 hx
  exact single_den ρ v (h v hv)
def icells : IV → Option (List IV)
  | .agg cs => bif cs.all isingle then some cs else none
  | v => bif isingle v then some [v] else none
theorem mapOf_none {cs : List IV} (h : ∀ l, cs ≠ [.mpv l]) : mapOf cs = none := by
  unfold mapOf
  split
  · exact absurd rfl (h _)
  · rfl
theorem mapOf_ne {cs : List IV} (h : mapOf cs = none) (l : List (Value × Value)) : cs ≠ [.mpv l] := fun e => by subst e; cases h
theorem mapOf_single {cs : List IV} (h : cs.all isingle = true) : mapOf cs = none := mapOf_none fun l e => by subst e; cases h
theorem mapOf_append {k cs : List IV} (hk : mapOf k = none) (h : cs.all isingle = true) : mapOf (k ++ cs) = none := mapOf_none fun l e => by
  cases k with
  | nil => exact mapOf_ne (mapOf_single h) l e
  | cons a r =>
    rw [List.cons_append] at e
    injection e with e1 e2
    have := List.append_eq_nil_iff.1 e2
    exact mapOf_ne hk l (by rw [e1, this.1])
theorem mapOf_set {k : List IV} {c : IV} {i : Nat} (hk : mapOf k = none) (hc : isingle c = true) : mapOf (k.set i c) = none := mapOf_none fun l e => by
  cases k with
  | nil => cases e
  | cons a r =>
    cases i with
    | zero =>
      rw [List.set_cons_zero] at e
      injection e with e1 e2
      subst e1
      cases hc
    | succ j =>
      rw [List.set_cons_succ] at e
      injection e with e1 e2
      have h0 := congrArg List.length e2
      rw [List.length_set] at h0
      exact mapOf_ne hk l (by rw [e1, List.eq_nil_of_length_eq_zero h0])
theorem icells_all {v : IV} {cs : List IV} (h : icells v = some cs) : cs.all isingle = true := by
  have one : ∀ w : IV, (bif isingle w then some [w] else none) = some cs → cs.all isingle = true := fun w h => by
    cases hs : isingle w with
    | false => rw [hs] at h; cases h
    | true => rw [hs] at h; cases h; simp [hs]
  cases v with
  | agg c =>
    simp only [icells] at h
    cases hs : c.all isingle with
    | true => rw [hs] at h; cases h; exact hs
    | false => rw [hs] at h; cases h
  | sc x => exact one (.sc x) h
  | any => exact one .any h
  | tup c => exact one (.tup c) h
  | os b o l s => exact one (.os b o l s) h
  | op b o => exact one (.op b o) h
  | fn g a c => exact one (.fn g a c) h
  | mp b => exact one (.mp b) h
  | gv g => exact one (.gv g) h
  | mpv l => exact one (.mpv l) h
theorem icells_den {ρ : Nat → Nat} {v : IV} {cs : List IV} (h : icells v = some cs) : svCells (v.den ρ) = some (cs.map (IV.den ρ)) := by
  have one : ∀ v : IV, (bif isingle v then some [v] else none) = some cs → (bif single (v.den ρ) then some [v.den ρ] else none) = some (cs.map (IV.den ρ)) := by
    intro v h
    cases hs : isingle v with
    | true => rw [hs] at h; cases h; rw [single_den ρ v hs]; rfl
    | false => rw [hs] at h; cases h
  cases v with
  | agg c =>
    simp only [icells] at h
    simp only [IV.den, IV.denL_map, svCells]
    cases hs : c.all isingle with
    | true => rw [hs] at h; cases h; rw [all_single_den ρ _ hs]; rfl
    | false => rw [hs] at h; cases h
  | sc x => exact one (.sc x) h
  | any => exact one .any h
  | tup c => exact one (.tup c) h
  | os b o l s => exact one (.os b o l s) h
  | op b o => exact one (.op b o) h
  | fn g a c => exact one (.fn g a c) h
  | mp b => exact one (.mp b) h
  | gv g => cases h
  | mpv l => cases h
def binI (op : BinOp) (k : IntKind) (a : Int) (k' : IntKind) (b : Int) : Option Value :=
  match op with
  | .shl => bif decide (0 ≤ b) then some (.int k (k.wrap (a * 2 ^ (min b.toNat k.bits)))) else none
  | .shr => bif decide (0 ≤ b) then some (.int k (a.fdiv (2 ^ (min b.toNat k.bits)))) else none
  | .add => bif decide (k = k') then some (.int k (k.wrap (a + b))) else none
  | .sub => bif decide (k = k') then some (.int k (k.wrap (a - b))) else none
  | .mul => bif decide (k = k') then some (.int k (k.wrap (a * b))) else none
  | .quo => bif decide (k = k') && decide (b ≠ 0) then some (.int k (k.wrap (a.tdiv b))) else none
  | .rem => bif decide (k = k') && decide (b ≠ 0) then some (.int k (a.tmod b)) else none
  | .and => bif decide (k = k') then some (.int k (bits .and k a b)) else none
  | .or => bif decide (k = k') then some (.int k (bits .or k a b)) else none
  | .xor => bif decide (k = k') then some (.int k (bits .xor k a b)) else none
  | .andNot => bif decide (k = k') then some (.int k (bits .andNot k a b)) else none
  | .eql => bif decide (k = k') then some (.bool (decide (a = b))) else none
  | .neq => bif decide (k = k') then some (.bool (!decide (a = b))) else none
  | .lss => bif decide (k = k') then some (.bool (decide (a < b))) else none
  | .leq => bif decide (k = k') then some (.bool (decide (a ≤ b))) else none
  | .gtr => bif decide (k = k') then some (.bool (decide (b < a))) else none
  | .geq => bif decide (k = k') then some (.bool (decide (b ≤ a))) else none
theorem binI_ok {op : BinOp} {k k' : IntKind} {a b : Int} {v : Value} (h : binI op k a k' b = some v) : ∃ pre, binII op k a k' b = .ok pre (.sc v) ∧ pre := by
  have key : ∀ {c : Bool} {x : Value}, (bif c then some x else none) = some v → c = true ∧ x = v := by
    intro c x hh
    cases c
    · cases hh
    · cases hh; exact ⟨rfl, rfl⟩
  cases op <;> (simp only [binI] at h; obtain ⟨h1, h2⟩ := key h; subst h2; exact ⟨_, rfl, by simpa using h1⟩)
def binS (op : BinOp) (a b : ByteArray) : Option Value :=
  match op with
  | .add => bif decide (((a.size + b.size : Nat) : Int) ≤ 9223372036854775807) then some (.string (a ++ b)) else none
  | .eql => some (.bool (a.toList == b.toList))
  | .neq => some (.bool (!(a.toList == b.toList)))
  | .lss => some (.bool (Op.bytesLess a.toList b.toList))
  | .leq => some (.bool (Op.bytesLess a.toList b.toList || a.toList == b.toList))
  | .gtr => some (.bool (!(Op.bytesLess a.toList b.toList || a.toList == b.toList)))
  | .geq => some (.bool (!(Op.bytesLess a.toList b.toList)))
  | _ => none
theorem binS_ok {op : BinOp} {a b : ByteArray} {v : Value} (h : binS op a b = some v) : ∃ pre, binSS op a b = .ok pre (.sc v) ∧ pre := by
  cases op <;> simp only [binS] at h
  case add =>
    cases hd : decide (((a.size + b.size : Nat) : Int) ≤ 9223372036854775807) with
    | true => rw [hd] at h; cases h; exact ⟨_, rfl, by simpa using hd⟩
    | false => rw [hd] at h; cases h
  all_goals first | (cases h; done) | (cases h; exact ⟨_, rfl, trivial⟩)
def binIV (P : Program) (op : BinOp) (t : TypeId) (x y : IV) : IRes :=
  match x, y with
  | .sc (.int k a), .sc (.int k' b) => match binI op k a k' b with | some v => .ok (.sc v) | none => .bad
  | .sc (.string a), .sc (.string b) => match binS op a b with | some v => .ok (.sc v) | none => .bad
  | .sc (.bool a), .sc (.bool b) => match op with
    | .eql => bif isBool P t then .ok (.sc (.bool (a == b))) else .bad
    | .neq => bif isBool P t then .ok (.sc (.bool (!(a == b)))) else .bad
    | _ => .bad
  | .sc (.slice none 0 0), .sc (.slice none 0 0) => match op with
    | .eql => bif isSl P t then .ok (.sc (.bool true)) else .bad
    | .neq => bif isSl P t then .ok (.sc (.bool false)) else .bad
    | _ => .bad
  | .os _ _ _ _, .sc (.slice none 0 0) => match op with
    | .eql => bif isSl P t then .ok (.sc (.bool false)) else .bad
    | .neq => bif isSl P t then .ok (.sc (.bool true)) else .bad
    | _ => .bad
  | _, _ => .bad
def unIV (op : UnOp) (x : IV) : IRes :=
  match op, x with
  | .neg, .sc (.int k n) => .ok (.sc (.int k (k.wrap (0 - n))))
  | .not, .sc (.bool b) => .ok (.sc (.bool (!b)))
  | .xor, .sc (.int k n) => .ok (.sc (.int k (bits .xor k (if k.signed then -1 else k.max) n)))
  | _, _ => .bad
def loadIV (T : Option (Bool × Nat)) (x : IV) (h : IHeap) : IRes :=
  match T, x with
  | some (g, n), .op b off => match ifindC h b with
    | some k => bif g then (bif Nat.ble (off + n) k.length then .ok (.agg ((k.drop off).take n)) else .bad)
      else (bif Nat.blt off k.length then .ok (k.getD off .any) else .bad)
    | none => .bad
  | _, _ => .bad
def indexAddrIV (L : Option (TypeId × Nat × Nat)) (A : Option (Nat × Nat)) (x i : IV) : IRes :=
  match i with
  | .sc (.int _ (.ofNat n)) => match x with
    | .os b off len sz => match L with
      | some (_, s, _) => bif Nat.blt n len && Nat.beq sz s then .ok (.op b (off + n * s)) else .bad
      | none => .bad
    | .op b off => match A with
      | some (len, s) => bif Nat.blt n len then .ok (.op b (off + n * s)) else .bad
      | none => .bad
    | _ => .bad
  | _ => .bad
def indexIV (st : Bool) (x i : IV) : IRes :=
  match x, i with
  | .sc (.string s), .sc (.int _ (.ofNat n)) => bif st && Nat.blt n s.size then .ok (.sc (.int .u8 (s.data.toList.getD n 0).toNat)) else .bad
  | _, _ => .bad
def fieldAddrIV (F : Option (Nat × Bool × Nat)) (x : IV) : IRes :=
  match F, x with
  | some (off, _, n), .op b o => bif Nat.beq n 0 then .bad else .ok (.op b (o + off))
  | _, _ => .bad
def fieldIV (F : Option (Nat × Bool × Nat)) (x : IV) : IRes :=
  match F, x with
  | some (off, g, n), .agg cs => bif g then (bif Nat.ble (off + n) cs.length then .ok (.agg ((cs.drop off).take n)) else .bad)
      else (bif Nat.blt off cs.length then .ok (cs.getD off .any) else .bad)
  | _, _ => .bad
def lenIV (st : Bool) (L : Option (TypeId × Nat × Nat)) (A : Option (Nat × Nat)) (x : IV) : IRes :=
  match x with
  | .os _ _ n _ => match L with
    | some _ => .ok (.sc (.int .i64 n))
    | none => .bad
  | .sc (.slice _ n _) => match L with
    | some _ => .ok (.sc (.int .i64 n))
    | none => .bad
  | .sc (.string s) => bif st then .ok (.sc (.int .i64 s.size)) else .bad
  | .agg _ => match A with
    | some (n, _) => .ok (.sc (.int .i64 n))
    | none => .bad
  | .op _ _ => match A with
    | some (n, _) => .ok (.sc (.int .i64 n))
    | none => .bad
  | _ => .bad
def ibnd (x : Option IV) (d : Nat) : Option Nat :=
  match x with
  | none => some d
  | some (.sc (.int _ (.ofNat n))) => some n
  | _ => none
def sliceIV (st : Bool) (L : Option (TypeId × Nat × Nat)) (x : IV) (lo hi mx : Option IV) : IRes :=
  match mx with
  | some m => match hi with
    | none => .bad
    | some hi => match x with
      | .os b off n sz => match L, ibnd lo 0, ibnd (some hi) n, ibnd (some m) n with
        | some (_, s, _), some l, some h, some m => bif Nat.beq sz s && Nat.ble l h && Nat.ble h m && Nat.ble m n && (Nat.beq l 0 || Nat.blt l h) then .ok (.os b (off + l * s) (h - l) sz) else .bad
        | _, _, _, _ => .bad
      | _ => .bad
  | none => match x with
    | .sc (.string s) => match ibnd lo 0, ibnd hi s.size with
      | some l, some h => bif st && Nat.ble l h && Nat.ble h s.size then .ok (.sc (.string (s.extract l h))) else .bad
      | _, _ => .bad
    | .sc (.slice none 0 0) => match L, ibnd lo 0, ibnd hi 0 with
      | some _, some l, some h => bif Nat.ble l h && Nat.ble h 0 then .ok (.sc (.slice none 0 0)) else .bad
      | _, _, _ => .bad
    | .os b off n sz => match L, ibnd lo 0, ibnd hi n with
      | some (_, s, _), some l, some h => bif Nat.beq sz s && Nat.ble l h && Nat.ble h n && (Nat.beq l 0 || Nat.blt l h) then .ok (.os b (off + l * s) (h - l) sz) else .bad
      | _, _, _ => .bad
    | _ => .bad
def convIV (kd : Option IntKind) (sd : Bool) (x : IV) : IRes :=
  match x with
  | .sc (.int _ n) => match kd with
    | some k => .ok (.sc (.int k (k.wrap n)))
    | none => bif sd then .ok (.sc (.string (Utf8.encode n))) else .bad
  | .sc (.string s) => bif sd then .ok (.sc (.string s)) else .bad
  | _ => .bad
def nilIV (x : IV) : IRes :=
  match x with
  | .op b o => .ok (.op b o)
  | .fn (.func f) a c => .ok (.fn (.func f) a c)
  | _ => .bad
def isetAll (l : List IV) (off : Nat) (cs : List IV) : List IV := match cs with
  | [] => l
  | c :: r => isetAll (l.set off c) (off + 1) r
theorem mapOf_isetAll : ∀ (cs k : List IV) (off : Nat), mapOf k = none → cs.all isingle = true → mapOf (isetAll k off cs) = none
  | [], k, off, hk, _ => hk
  | c :: r, k, off, hk, h => by
    rw [List.all_cons, Bool.and_eq_true] at h
    exact mapOf_isetAll r (k.set off c) (off + 1) (mapOf_set hk h.1) h.2
theorem setAll_den (ρ : Nat → Nat) : ∀ (cs l : List IV) (off : Nat), (isetAll l off cs).map (IV.den ρ) = setAll (l.map (IV.den ρ)) off (cs.map (IV.den ρ))
  | [], _, _ => rfl
  | c :: r, l, off => by rw [isetAll, setAll_den ρ r, List.map_set]; rfl
def fillIV (place : Nat → Option (Nat × Nat)) (l : List IV) (ps : List (Nat × IV)) : Option (List IV) := match ps with
  | [] => some l
  | (i, v) :: r => match place i, icells v with
    | some (off, n), some cs => bif Nat.beq cs.length n && Nat.ble (off + n) l.length then fillIV place (isetAll l off cs) r else none
    | _, _ => none
theorem fillIV_den (ρ : Nat → Nat) {place : Nat → Option (Nat × Nat)} : ∀ (ps : List (Nat × IV)) (l r : List IV), fillIV place l ps = some r →
    fillSV place (l.map (IV.den ρ)) (ps.map fun x => (x.1, x.2.den ρ)) = some (r.map (IV.den ρ))
  | [], l, r, h => by cases h; rfl
  | (i, v) :: ps, l, r, h => by
    simp only [fillIV] at h
    simp only [List.map_cons, fillSV]
    split at h
    · rename_i off n cs hp hc
      rw [hp, icells_den hc]
      simp only [List.length_map]
      cases hb : (Nat.beq cs.length n && Nat.ble (off + n) l.length) with
      | false => rw [hb] at h; cases h
      | true =>
        rw [hb] at h
        rw [Bool.and_eq_true, Nat.beq_eq, Nat.ble_eq] at hb
        rw [if_pos hb, ← setAll_den]
        exact fillIV_den ρ ps _ _ h
    · cases h
def buildIV (F : Option (List (Nat × Nat))) (A : Option (Nat × Nat)) (Z : Option (List Value)) (ps : List (Nat × IV)) : IRes :=
  match Z with
  | none => .bad
  | some z => match F with
    | some fl => match fillIV (fun i => fl[i]?) (z.map .sc) ps with
      | some r => .ok (.agg r)
      | none => .bad
    | none => match A with
      | some (_, s) => match fillIV (fun i => some (i * s, s)) (z.map .sc) ps with
        | some r => .ok (.agg r)
        | none => .bad
      | none => .bad
def izfill (z : List Value) (n : Nat) : List IV := match n with
  | 0 => []
  | n + 1 => z.map IV.sc ++ izfill z n
theorem map_sc_den (ρ : Nat → Nat) (z : List Value) : (z.map IV.sc).map (IV.den ρ) = z.map SV.sc := by
  rw [List.map_map]; rfl
theorem izfill_den (ρ : Nat → Nat) (z : List Value) : ∀ n, (izfill z n).map (IV.den ρ) = zfill z n
  | 0 => rfl
  | n + 1 => by rw [izfill, List.map_append, map_sc_den, izfill_den ρ z n]; rfl
theorem izfill_sc (z : List Value) : ∀ (n : Nat) (x : IV), x ∈ izfill z n → ∃ v, x = .sc v
  | 0, x, h => by cases h
  | n + 1, x, h => by
    rw [izfill, List.mem_append] at h
    rcases h with h | h
    · obtain ⟨v, _, rfl⟩ := List.mem_map.1 h; exact ⟨v, rfl⟩
    · exact izfill_sc z n x h
theorem mapOf_izfill (z : List Value) (n : Nat) : mapOf (izfill z n) = none := mapOf_none fun l e => by
  obtain ⟨v, hv⟩ := izfill_sc z n (.mpv l) (by rw [e]; exact List.mem_cons_self)
  cases hv
theorem zeros_cells (z : List Value) (n : Nat) : (zeros z n).cells = zfill z n := by
  unfold zeros
  split
  · rename_i k
    simp only [Blk.cells]
    induction n with
    | zero => rfl
    | succ n ih => rw [List.replicate_succ, List.map_cons, ih]; rfl
  · simp only [Blk.cells]
    induction n with
    | zero => rfl
    | succ n ih => rw [List.replicate_succ, List.map_cons, ih]; rfl
  · rfl
def buildSliceIV (L : Option (TypeId × Nat × Nat)) (Z : Option (List Value)) (len : Nat) (ps : List (Nat × IV)) : IRes :=
  match L, Z with
  | some (_, s, _), some z => match fillIV (fun i => some (i * s, s)) (izfill z len) ps with
    | some r => bif Nat.beq z.length s && Nat.ble (len * s) 16777216 && Nat.blt 0 s then .new r (fun b => .os b 0 len s) else .bad
    | none => .bad
  | _, _ => .bad
def makeIV (L : Option (TypeId × Nat × Nat)) (Z : Option (List Value)) (l c : IV) : IRes :=
  match L, Z, l, c with
  | some (_, s, bytes), some z, .sc (.int _ (.ofNat n)), .sc (.int _ (.ofNat m)) =>
    bif Nat.ble n m && Nat.ble m 9223372036854775807 && Nat.ble (bytes * m) 281474976710656 && Nat.beq z.length s && Nat.blt 0 s then .new (izfill z m) (fun b => .os b 0 n s) else .bad
  | _, _, _, _ => .bad
def boxIV (x : IV) : IRes := match icells x with
  | some cs => .new cs (fun b => .op b 0)
  | none => .bad
def allocIV (B : Bool) (Z : Option (List Value)) : IRes := bif B then .bad else match Z with
  | some z => .new (z.map .sc) (fun b => .op b 0)
  | none => .bad
def pickIV (c a b : IV) : IRes := match c with
  | .sc (.bool t) => .ok (bif t then a else b)
  | _ => .bad
def tupIV (x : IV) (i : Nat) : IRes := match x with
  | .tup cs => bif Nat.blt i cs.length then .ok (cs.getD i .any) else .bad
  | _ => .bad
def capIV (L : Option (TypeId × Nat × Nat)) (x : IV) : IRes := match L, x with
  | some _, .sc (.slice none _ c) => .ok (.sc (.int .i64 c))
  | _, _ => .bad
def minIV (x y : IV) : IRes := match x, y with
  | .sc (.int k a), .sc (.int _ b) => .ok (.sc (.int k (if b < a then b else a)))
  | _, _ => .bad
def maxIV (x y : IV) : IRes := match x, y with
  | .sc (.int k a), .sc (.int _ b) => .ok (.sc (.int k (if a < b then b else a)))
  | _, _ => .bad
def lookRI (ok : Bool) (z : Value) : Option (Option (Nat × Value)) → IRes
  | some (some (_, v)) => .ok (bif ok then .tup [.sc v, .sc (.bool true)] else .sc v)
  | some none => .ok (bif ok then .tup [.sc z, .sc (.bool false)] else .sc z)
  | none => .bad
def lookIV (T : Option (KK × Value)) (ok : Bool) (x k : IV) (h : IHeap) : IRes := match T, x, k with
  | some (c, z), .mp b, .sc a => match ifind h b with
    | some cs => match mapOf cs with
      | some l => bif kkOk c a then lookRI ok z (mfI c a l 0) else .bad
      | none => .bad
    | none => .bad
  | _, _, _ => .bad
def valI (P : Program) (op : Op) (ε : Operand → IV) (h : IHeap) : IRes :=
  match op with
  | .move x => .ok (ε x)
  | .assign x => .ok (ε x)
  | .pick c a b => pickIV (ε c) (ε a) (ε b)
  | .binOp op t x y _ => binIV P op t (ε x) (ε y)
  | .unOp op _ x => unIV op (ε x)
  | .load t x => loadIV (tk P t) (ε x) h
  | .indexAddr t x i => indexAddrIV (slk P t) (ark P t) (ε x) (ε i)
  | .index t x i => indexIV (isStr P t) (ε x) (ε i)
  | .fieldAddr s x f => fieldAddrIV (fdk P s f) (ε x)
  | .field s x f => fieldIV (fdk P s f) (ε x)
  | .extract x i => tupIV (ε x) i
  | .nilCheck x => nilIV (ε x)
  | .slice t x lo hi mx => match ark P t with
    | none => sliceIV (isStr P t) (slk P t) (ε x) (lo.map ε) (hi.map ε) (mx.map ε)
    | some _ => .bad
  | .convert s d x => bif (P.underlying s).isSome then convIV (ik P d) (isStr P d) (ε x) else .bad
  | .box _ x => boxIV (ε x)
  | .alloc e => allocIV (bldk P e) (zk P e)
  | .build t ps => buildIV (flk P t) (ark P t) (zk P t) (ps.toList.map fun (i, x) => (i, ε x))
  | .buildSlice t n ps => buildSliceIV (slk P t) (elemZ P t) n (ps.toList.map fun (i, x) => (i, ε x))
  | .makeSlice t l c => makeIV (slk P t) (elemZ P t) (ε l) (ε c)
  | .makeFunc fn a c => .ok (.fn fn (a.toList.map ε) (c.toList.map ε))
  | .call { callee := .builtin .len, args := ⟨[x]⟩, argTypes := ⟨[t]⟩ } => lenIV (isStr P t) (slk P t) (ark P t) (ε x)
  | .call { callee := .builtin .cap, args := ⟨[x]⟩, argTypes := ⟨[t]⟩ } => capIV (slk P t) (ε x)
  | .call { callee := .builtin .min, args := ⟨[x, y]⟩, argTypes := _ } => minIV (ε x) (ε y)
  | .call { callee := .builtin .max, args := ⟨[x, y]⟩, argTypes := _ } => maxIV (ε x) (ε y)
  | .lookup t x k ok => lookIV (mtk P t) ok (ε x) (ε k) h
  | _ => .bad
def Meets (ρ : Nat → Nat) (R : VRes) : IRes → Prop
  | .bad => True
  | .ok v => ∃ pre, R = .ok pre (v.den ρ) ∧ pre
  | .new cs mk => ∃ pre k f, R = .new pre k f ∧ pre ∧ k.cells = cs.map (IV.den ρ) ∧ ∀ (ρ' : Nat → Nat) (n : Nat), f (ρ' n) = (mk n).den ρ'
theorem bnd_den {ρ : Nat → Nat} {x : Option IV} {d n : Nat} (h : ibnd x d = some n) : bnd (x.map (IV.den ρ)) d = some (n : Int) := by
  unfold ibnd at h
  split at h
  · cases h; rfl
  · cases h; rfl
  · cases h
theorem toNat_sub' (h l : Nat) : ((h : Int) - (l : Int)).toNat = h - l := by omega
theorem Meets.bif {ρ : Nat → Nat} {R : VRes} {c : Bool} {r : IRes} (h : c = true → Meets ρ R r) : Meets ρ R (bif c then r else .bad) := by
  cases c
  · trivial
  · exact h rfl
theorem valI_ok {P : Program} {op : Op} {ε : Operand → IV} {e : Operand → SV} {ih : IHeap} {h : Heap} {ρ : Nat → Nat} (he : ∀ x, e x = (ε x).den ρ) (hh : HD ρ ih h) :
    Meets ρ (valOp P op e h) (valI P op ε ih) := by
  have hom : ∀ o : Option Operand, o.map e = (o.map ε).map (IV.den ρ) := fun o => by cases o <;> simp [he]
  have hl : ∀ l : List Operand, l.map e = (l.map ε).map (IV.den ρ) := fun l => by rw [List.map_map]; exact List.map_congr_left fun x _ => he x
  have hp : ∀ l : List (Nat × Operand), (l.map fun (i, x) => (i, e x)) = (l.map fun (i, x) => (i, ε x)).map fun x => (x.1, x.2.den ρ) := fun l => by
    rw [List.map_map]; exact List.map_congr_left fun x _ => by simp [he]
  unfold valI
  split
  · rename_i x; exact ⟨True, by simp [valOp, he], trivial⟩
  · rename_i x; exact ⟨True, by simp [valOp, he], trivial⟩
  · rename_i c a b
    simp only [valOp, he]
    generalize ε c = cv
    unfold pickIV
    split
    · rename_i t; refine ⟨True, ?_, trivial⟩
      cases t <;> rfl
    · trivial
  · rename_i op t x y _
    simp only [valOp, he]
    generalize ε x = xv
    generalize ε y = yv
    unfold binIV
    split
    · rename_i k a k' b
      split
      · rename_i v hv
        exact binI_ok hv
      · trivial
    · split
      · rename_i v hv
        exact binS_ok hv
      · trivial
    · split
      · exact .bif fun hb => ⟨_, rfl, hb⟩
      · exact .bif fun hb => ⟨_, rfl, hb⟩
      · trivial
    · split
      · exact .bif fun hb => ⟨_, rfl, hb⟩
      · exact .bif fun hb => ⟨_, rfl, hb⟩
      · trivial
    · split
      · exact .bif fun hb => ⟨_, rfl, hb⟩
      · exact .bif fun hb => ⟨_, rfl, hb⟩
      · trivial
    · trivial
  · rename_i op _ x
    simp only [valOp, he]
    generalize ε x = xv
    unfold unIV
    split
    · exact ⟨_, rfl, trivial⟩
    · exact ⟨_, rfl, trivial⟩
    · exact ⟨_, rfl, trivial⟩
    · trivial
  · rename_i t x
    simp only [valOp, he]
    generalize ε x = xv
    unfold loadIV
    split
    · rename_i g n b off hT
      rw [hT]
      split
      · rename_i k hk
        obtain ⟨kk, hf, hc⟩ := hh.get hk
        cases g
        · refine .bif fun hb => ?_
          simp only [Nat.blt_eq] at hb
          exact ⟨off < kk.len, by simp only [IV.den, loadSV, hf, Blk.getI hc hb], by rw [Blk.lenI hc]; exact hb⟩
        · refine .bif fun hb => ?_
          simp only [Nat.ble_eq] at hb
          exact ⟨off + n ≤ kk.len, by simp only [IV.den, loadSV, hf, IV.denL_map, getN_I hc _ _ hb], by rw [Blk.lenI hc]; exact hb⟩
      · trivial
    · trivial
  · rename_i t x i
    simp only [valOp, he]
    generalize ε x = xv
    generalize ε i = iv
    unfold indexAddrIV
    split
    · rename_i kk n
      split
      · rename_i b off len sz
        split
        · rename_i q s bb hL
          refine .bif fun hb => ?_
          rw [Bool.and_eq_true, Nat.blt_eq, Nat.beq_eq] at hb
          exact ⟨_, by simp only [IV.den, indexAddrSV, hL]; rfl, by simp; omega⟩
        · trivial
      · rename_i b off
        split
        · rename_i len s hA
          refine .bif fun hb => ?_
          rw [Nat.blt_eq] at hb
          exact ⟨_, by simp only [IV.den, indexAddrSV, hA]; rfl, by simp; omega⟩
        · trivial
      · trivial
    · trivial
  · rename_i t x i
    simp only [valOp, he]
    generalize ε x = xv
    generalize ε i = iv
    unfold indexIV
    split
    · rename_i s kk n
      refine .bif fun hb => ?_
      rw [Bool.and_eq_true, Nat.blt_eq] at hb
      exact ⟨_, by simp only [IV.den, indexSV]; rfl, by simp [hb.1]; omega⟩
    · trivial
  · rename_i s x f
    simp only [valOp, he]
    generalize ε x = xv
    unfold fieldAddrIV
    split
    · rename_i off g n b o hF
      rw [hF]
      cases hb : Nat.beq n 0 with
      | true => trivial
      | false => exact ⟨_, rfl, fun e => by rw [← Nat.beq_eq, hb] at e; cases e⟩
    · trivial
  · rename_i s x f
    simp only [valOp, he]
    generalize ε x = xv
    unfold fieldIV
    split
    · rename_i off g n cs hF
      rw [hF]
      cases g
      · refine .bif fun hb => ?_
        rw [Nat.blt_eq] at hb
        exact ⟨off < (cs.map (IV.den ρ)).length, by simp only [IV.den, IV.denL_map, fieldSV, den_getD], by simpa using hb⟩
      · refine .bif fun hb => ?_
        rw [Nat.ble_eq] at hb
        exact ⟨off + n ≤ (cs.map (IV.den ρ)).length, by simp only [IV.den, IV.denL_map, fieldSV, List.map_take, List.map_drop], by simpa using hb⟩
    · trivial
  · rename_i x i
    simp only [valOp, he]
    generalize ε x = xv
    unfold tupIV
    split
    · rename_i cs
      refine .bif fun hb => ?_
      rw [Nat.blt_eq] at hb
      exact ⟨i < (cs.map (IV.den ρ)).length, by simp only [IV.den, IV.denL_map, tupSV, den_getD], by simpa using hb⟩
    · trivial
  · rename_i x
    simp only [valOp, he]
    generalize ε x = xv
    unfold nilIV
    split
    · exact ⟨_, rfl, trivial⟩
    · exact ⟨_, rfl, trivial⟩
    · trivial
  · rename_i t x lo hi mx
    simp only [valOp, hom, he]
    generalize ε x = xv
    generalize lo.map ε = lov
    generalize hi.map ε = hiv
    generalize mx.map ε = mxv
    split
    rotate_left
    · trivial
    rename_i hA
    rw [hA]
    simp only [sliceX_none]
    unfold sliceIV
    split
    · rename_i m
      split
      · trivial
      · rename_i hi
        split
        · rename_i b off n sz
          split
          · rename_i q s bb l h m' hL hl hh' hm
            refine .bif fun hb => ?_
            simp only [Bool.and_eq_true, Bool.or_eq_true, Nat.beq_eq, Nat.ble_eq, Nat.blt_eq] at hb
            have e1 := bnd_den (ρ := ρ) hl
            have e2 := bnd_den (ρ := ρ) hh'
            have e3 := bnd_den (ρ := ρ) hm
            simp only [Option.map_some] at e2 e3
            refine ⟨_, by simp only [Option.map_some, IV.den, sliceSV, e1, e2, e3, hL, Int.toNat_natCast, toNat_sub']; rfl, by omega⟩
          · trivial
        · trivial
    · split
      · rename_i s
        split
        · rename_i l h hl hh'
          refine .bif fun hb => ?_
          simp only [Bool.and_eq_true, Nat.ble_eq] at hb
          have e1 := bnd_den (ρ := ρ) hl
          have e2 := bnd_den (ρ := ρ) hh'
          refine ⟨isStr P t = true ∧ (0 : Int) ≤ (l : Int) ∧ (l : Int) ≤ (h : Int) ∧ (h : Int) ≤ s.size, by simp only [Option.map_none, IV.den, sliceSV, e1, e2, Int.toNat_natCast, toNat_sub'], hb.1.1, by omega, by omega, by omega⟩
        · trivial
      · split
        · rename_i q l h hL hl hh'
          refine .bif fun hb => ?_
          simp only [Bool.and_eq_true, Nat.ble_eq] at hb
          have e1 := bnd_den (ρ := ρ) hl
          have e2 := bnd_den (ρ := ρ) hh'
          refine ⟨(0 : Int) ≤ (l : Int) ∧ (l : Int) ≤ (h : Int) ∧ (h : Int) ≤ 0, by simp only [Option.map_none, IV.den, sliceSV, e1, e2, hL], by omega⟩
        · trivial
      · rename_i b off n sz
        split
        · rename_i q s bb l h hL hl hh'
          refine .bif fun hb => ?_
          simp only [Bool.and_eq_true, Bool.or_eq_true, Nat.beq_eq, Nat.ble_eq, Nat.blt_eq] at hb
          have e1 := bnd_den (ρ := ρ) hl
          have e2 := bnd_den (ρ := ρ) hh'
          refine ⟨_, by simp only [Option.map_none, IV.den, sliceSV, e1, e2, hL, Int.toNat_natCast, toNat_sub']; rfl, by omega⟩
        · trivial
      · trivial
  · rename_i s d x
    simp only [valOp, he]
    generalize ε x = xv
    refine .bif fun hb => ?_
    rw [hb]
    simp only [cond_true]
    unfold convIV
    split
    · split
      · rename_i k hk; rw [hk]; exact ⟨_, rfl, trivial⟩
      · rename_i hk
        rw [hk]
        refine .bif fun hb => ?_
        rw [hb]
        exact ⟨_, rfl, trivial⟩
    · refine .bif fun hb => ?_
      refine ⟨True, ?_, trivial⟩
      show (bif isStr P d then VRes.ok True _ else VRes.bad) = _
      rw [hb]
      rfl
    · trivial
  · rename_i _ x
    simp only [valOp, he]
    generalize ε x = xv
    unfold boxIV
    split
    · rename_i cs hc
      refine ⟨_, _, _, by simp only [boxSV, icells_den hc]; rfl, trivial, rfl, fun _ _ => rfl⟩
    · trivial
  · rename_i t
    simp only [valOp]
    unfold allocIV
    cases hB : bldk P t with
    | true => trivial
    | false =>
      simp only [cond_false]
      split
      · rename_i z hz
        refine ⟨_, _, _, by simp only [allocSV, hz]; rfl, trivial, by rw [map_sc_den]; rfl, fun _ _ => rfl⟩
      · trivial
  · rename_i t ps
    simp only [valOp, hp]
    generalize (ps.toList.map fun (i, x) => (i, ε x)) = pv
    unfold buildIV
    split
    · trivial
    · rename_i z hz
      rw [hz]
      split
      · rename_i fl hF
        rw [hF]
        split
        · rename_i r hr
          have := fillIV_den ρ _ _ _ hr
          rw [map_sc_den] at this
          exact ⟨_, by simp only [buildSV, this, IV.den, IV.denL_map], trivial⟩
        · trivial
      · rename_i hF
        rw [hF]
        split
        · rename_i n s hA
          rw [hA]
          split
          · rename_i r hr
            have := fillIV_den ρ _ _ _ hr
            rw [map_sc_den] at this
            exact ⟨_, by simp only [buildSV, this, IV.den, IV.denL_map], trivial⟩
          · trivial
        · trivial
  · rename_i t n ps
    simp only [valOp, hp]
    generalize (ps.toList.map fun (i, x) => (i, ε x)) = pv
    unfold buildSliceIV
    split
    · rename_i q s bb z hL hz
      rw [hL, hz]
      split
      · rename_i r hr
        refine .bif fun hb => ?_
        simp only [Bool.and_eq_true, Nat.beq_eq, Nat.ble_eq, Nat.blt_eq] at hb
        have := fillIV_den ρ _ _ _ hr
        rw [izfill_den] at this
        exact ⟨z.length = s ∧ n * s ≤ 16777216 ∧ 0 < s, .svs (r.map (IV.den ρ)), fun b => .os b 0 n s, by simp only [buildSliceSV, this], ⟨hb.1.1, hb.1.2, hb.2⟩, rfl, fun _ _ => rfl⟩
      · trivial
    · trivial
  · rename_i t l c
    simp only [valOp, he]
    generalize ε l = lv
    generalize ε c = cv
    unfold makeIV
    split
    · rename_i q s bytes z k n k' m hL hz
      rw [hL, hz]
      refine .bif fun hb => ?_
      simp only [Bool.and_eq_true, Nat.beq_eq, Nat.ble_eq, Nat.blt_eq] at hb
      have h1 : bytes * m ≤ 281474976710656 := hb.1.1.2
      have h2 : ((bytes * m : Nat) : Int) ≤ 281474976710656 := by omega
      rw [Int.natCast_mul] at h2
      have h3 : m ≤ 9223372036854775807 := hb.1.1.1.2
      have h4 : n ≤ m := hb.1.1.1.1
      refine ⟨(0 : Int) ≤ Int.ofNat n ∧ Int.ofNat n ≤ Int.ofNat m ∧ Int.ofNat m ≤ 9223372036854775807 ∧ bytes * Int.ofNat m ≤ 281474976710656 ∧ z.length = s ∧ 0 < s, zeros z m, fun b => .os b 0 n s, rfl,
        ⟨Int.natCast_nonneg n, Int.ofNat_le.2 h4, ?_, h2, hb.1.2, hb.2⟩, ?_, fun _ _ => rfl⟩
      · show (m : Int) ≤ 9223372036854775807
        omega
      · rw [izfill_den]; exact zeros_cells _ _
    · trivial
  · rename_i fn a c
    exact ⟨True, by simp only [valOp, IV.den, IV.denL_map, hl], trivial⟩
  · rename_i x t
    simp only [valOp, he]
    generalize ε x = xv
    unfold lenIV
    split
    · split
      · rename_i q hq; rw [hq]; exact ⟨_, rfl, trivial⟩
      · trivial
    · split
      · rename_i q hq; rw [hq]; exact ⟨_, rfl, trivial⟩
      · trivial
    · exact .bif fun hb => ⟨_, rfl, hb⟩
    · split
      · rename_i q hq; rw [hq]; exact ⟨_, rfl, trivial⟩
      · trivial
    · split
      · rename_i q hq; rw [hq]; exact ⟨_, rfl, trivial⟩
      · trivial
    · trivial
  · rename_i x t
    simp only [valOp, he]
    generalize ε x = xv
    unfold capIV
    split
    · rename_i q n c hq; rw [hq]; exact ⟨_, rfl, trivial⟩
    · trivial
  · rename_i x y _
    simp only [valOp, he]
    generalize ε x = xv
    generalize ε y = yv
    unfold minIV
    split
    · exact ⟨_, rfl, trivial⟩
    · trivial
  · rename_i x y _
    simp only [valOp, he]
    generalize ε x = xv
    generalize ε y = yv
    unfold maxIV
    split
    · exact ⟨_, rfl, trivial⟩
    · trivial
  · rename_i t x k ok
    simp only [valOp, he]
    generalize ε x = xv
    generalize ε k = kv
    unfold lookIV
    cases hT : mtk P t with
    | none => trivial
    | some cz =>
      obtain ⟨c, z⟩ := cz
      cases xv with
      | mp b =>
        cases kv with
        | sc a =>
          simp only
          cases hf : ifind ih b with
          | none => trivial
          | some cs =>
            simp only
            cases hm : mapOf cs with
            | none => trivial
            | some l =>
              simp only
              cases hk : kkOk c a with
              | false => trivial
              | true =>
                have hg := hh.getM hf hm
                simp only [cond_true, IV.den, lookSV, hg, hk]
                cases mfI c a l 0 with
                | none => trivial
                | some r =>
                  cases r with
                  | none => cases ok <;> exact ⟨True, rfl, trivial⟩
                  | some iv => obtain ⟨i, v⟩ := iv; cases ok <;> exact ⟨True, rfl, trivial⟩
        | _ => trivial
      | _ => trivial
  · trivial
end Go.Ab
/-! Aw: One step of the reading, and its soundness. -/
namespace Go.Ab
open Go.RowKit
variable [Gl]
inductive TT where
  | nil
  | node (v : IV) (l r : TT)
noncomputable def TT.get (t : TT) : Nat → IV := TT.rec (motive := fun _ => Nat → IV) (fun _ => .any)
  (fun v _ _ gl gr i => Nat.rec (motive := fun _ => IV) v (fun j _ => Bool.rec (motive := fun _ => IV) (gr (Nat.div j 2)) (gl (Nat.div j 2)) (Nat.beq (Nat.mod j 2) 0)) i) t
noncomputable def TT.one (f : Nat) : Nat → IV → TT := Nat.rec (motive := fun _ => Nat → IV → TT) (fun _ v => .node v .nil .nil)
  (fun _ ih i v => Nat.rec (motive := fun _ => TT) (.node v .nil .nil) (fun j _ => Bool.rec (motive := fun _ => TT) (.node .any .nil (ih (Nat.div j 2) v)) (.node .any (ih (Nat.div j 2) v) .nil) (Nat.beq (Nat.mod j 2) 0)) i) f
noncomputable def TT.set (t : TT) : Nat → IV → TT := TT.rec (motive := fun _ => Nat → IV → TT) (fun i v => TT.one i i v)
  (fun x l r sl sr i v => Nat.rec (motive := fun _ => TT) (.node v l r) (fun j _ => Bool.rec (motive := fun _ => TT) (.node x l (sr (Nat.div j 2) v)) (.node x (sl (Nat.div j 2) v) r) (Nat.beq (Nat.mod j 2) 0)) i) t
theorem TT.get_nil (i : Nat) : TT.get .nil i = .any := rfl
theorem TT.get_zero (v : IV) (l r : TT) : (TT.node v l r).get 0 = v := rfl
theorem TT.get_succ (v : IV) (l r : TT) (j : Nat) : (TT.node v l r).get (j + 1) = bif Nat.beq (j % 2) 0 then l.get (j / 2) else r.get (j / 2) := by
  show Bool.rec (motive := fun _ => IV) (r.get (j / 2)) (l.get (j / 2)) (Nat.beq (j % 2) 0) = _
  cases Nat.beq (j % 2) 0 <;> rfl
theorem TT.set_zero (v x : IV) (l r : TT) : (TT.node x l r).set 0 v = .node v l r := rfl
theorem TT.set_succ (v x : IV) (l r : TT) (j : Nat) : (TT.node x l r).set (j + 1) v = bif Nat.beq (j % 2) 0 then .node x (l.set (j / 2) v) r else .node x l (r.set (j / 2) v) := by
  show Bool.rec (motive := fun _ => TT) (.node x l (r.set (j / 2) v)) (.node x (l.set (j / 2) v) r) (Nat.beq (j % 2) 0) = _
  cases Nat.beq (j % 2) 0 <;> rfl
theorem TT.one_zero (f : Nat) (v : IV) : TT.one f 0 v = .node v .nil .nil := by cases f <;> rfl
theorem TT.one_succ (f j : Nat) (v : IV) : TT.one (f + 1) (j + 1) v = bif Nat.beq (j % 2) 0 then .node .any (TT.one f (j / 2) v) .nil else .node .any .nil (TT.one f (j / 2) v) := by
  show Bool.rec (motive := fun _ => TT) (.node .any .nil (TT.one f (j / 2) v)) (.node .any (TT.one f (j / 2) v) .nil) (Nat.beq (j % 2) 0) = _
  cases Nat.beq (j % 2) 0 <;> rfl
theorem half_inj {i j : Nat} (h : Nat.beq (i % 2) 0 = Nat.beq (j % 2) 0) : (i / 2 = j / 2) ↔ i = j := by
  constructor
  · intro e
    have h1 : i % 2 = j % 2 := by
      have hi : i % 2 = 0 ∨ i % 2 = 1 := by omega
      have hj : j % 2 = 0 ∨ j % 2 = 1 := by omega
      rcases hi with hi | hi <;> rcases hj with hj | hj <;> rw [hi, hj] at h <;> first | omega | (cases h)
    omega
  · intro e; rw [e]
theorem TT.get_one : ∀ (f i j : Nat) (v : IV), i ≤ f → (TT.one f i v).get j = if i = j then v else .any := by
  intro f
  induction f with
  | zero =>
    intro i j v hi
    obtain rfl : i = 0 := by omega
    cases j with
    | zero => rfl
    | succ j => rw [TT.one_zero, TT.get_succ]; cases Nat.beq (j % 2) 0 <;> simp [TT.get_nil]
  | succ f ih =>
    intro i j v hi
    cases i with
    | zero =>
      cases j with
      | zero => rw [TT.one_zero]; rfl
      | succ j => rw [TT.one_zero, TT.get_succ]; cases Nat.beq (j % 2) 0 <;> simp [TT.get_nil]
    | succ i =>
      rw [TT.one_succ]
      cases j with
      | zero => cases Nat.beq (i % 2) 0 <;> simp [TT.get_zero]
      | succ j =>
        cases hb : Nat.beq (i % 2) 0 <;> cases hc : Nat.beq (j % 2) 0
        · simp only [cond_false, TT.get_succ, hc, ih _ _ _ (show i / 2 ≤ f by omega), half_inj (hb.trans hc.symm), Nat.add_right_cancel_iff]
        · have : i ≠ j := fun e => by rw [e, hc] at hb; cases hb
          simp [TT.get_succ, hc, TT.get_nil, this]
        · have : i ≠ j := fun e => by rw [e, hc] at hb; cases hb
          simp [TT.get_succ, hc, TT.get_nil, this]
        · simp only [cond_true, TT.get_succ, hc, ih _ _ _ (show i / 2 ≤ f by omega), half_inj (hb.trans hc.symm), Nat.add_right_cancel_iff]
theorem TT.get_set : ∀ (t : TT) (i j : Nat) (v : IV), (t.set i v).get j = if i = j then v else t.get j := by
  intro t
  induction t with
  | nil => intro i j v; rw [TT.get_nil]; exact TT.get_one i i j v (Nat.le_refl _)
  | node x l r ihl ihr =>
    intro i j v
    cases i with
    | zero =>
      cases j with
      | zero => rfl
      | succ j => simp [TT.set_zero, TT.get_succ]
    | succ i =>
      rw [TT.set_succ]
      cases j with
      | zero => cases Nat.beq (i % 2) 0 <;> simp [TT.get_zero]
      | succ j =>
        cases hb : Nat.beq (i % 2) 0 <;> cases hc : Nat.beq (j % 2) 0
        · simp only [cond_false, TT.get_succ, hc, ihr, half_inj (hb.trans hc.symm), Nat.add_right_cancel_iff]
        · have : i ≠ j := fun e => by rw [e, hc] at hb; cases hb
          simp [TT.get_succ, hc, this]
        · have : i ≠ j := fun e => by rw [e, hc] at hb; cases hb
          simp [TT.get_succ, hc, this]
        · simp only [cond_true, TT.get_succ, hc, ihl, half_inj (hb.trans hc.symm), Nat.add_right_cancel_iff]
theorem TT.bound : ∀ t : TT, ∃ n, ∀ i, n ≤ i → t.get i = .any := by
  intro t
  induction t with
  | nil => exact ⟨0, fun _ _ => rfl⟩
  | node x l r ihl ihr =>
    obtain ⟨a, ha⟩ := ihl
    obtain ⟨b, hb⟩ := ihr
    refine ⟨2 * (a + b) + 2, fun i hi => ?_⟩
    cases i with
    | zero => omega
    | succ i =>
      rw [TT.get_succ]
      cases Nat.beq (i % 2) 0
      · exact hb _ (by omega)
      · exact ha _ (by omega)
noncomputable def TT.args : List IV → Nat → TT → TT
  | [], _, t => t
  | x :: r, i, t => TT.args r (i + 1) (t.set i x)
theorem TT.get_args : ∀ (l : List IV) (i : Nat) (t : TT) (j : Nat), (TT.args l i t).get j = if i ≤ j ∧ j < i + l.length then l.getD (j - i) .any else t.get j
  | [], i, t, j => by rw [TT.args, if_neg (by simp)]
  | x :: r, i, t, j => by
    rw [TT.args, TT.get_args r (i + 1), TT.get_set]
    by_cases h : i = j
    · subst h
      rw [if_neg (by omega), if_pos rfl, if_pos (by simp)]
      simp
    · by_cases h1 : i + 1 ≤ j ∧ j < i + 1 + r.length
      · rw [if_pos h1, if_pos (by simp; omega), show j - i = (j - (i + 1)) + 1 by omega]
        simp
      · rw [if_neg h1, if_neg h, if_neg (by simp; omega)]
structure IS where
  t : TT
  h : IHeap
noncomputable def IS.get (S : IS) (i : Nat) : IV := S.t.get i
noncomputable def IS.put (S : IS) (d : Option Tmp) (v : IV) : IS := match d with
  | some d => ⟨S.t.set d v, S.h⟩
  | none => S
noncomputable def IS.ev (S : IS) : Operand → IV
  | .tmp i => S.get i
  | .const v => .sc v
  | .global g => .gv g
  | .func f => .fn (.func f) [] []
structure DS (ρ : Nat → Nat) (S : IS) (T : Nat → SV) (h : Heap) : Prop where
  t : ∀ i, T i = (S.get i).den ρ
  hd : HD ρ S.h h
theorem DS.ev {ρ : Nat → Nat} {S : IS} {T : Nat → SV} {h : Heap} (H : DS ρ S T h) (x : Operand) : evF T x = (S.ev x).den ρ := by
  cases x with
  | tmp i => exact H.t i
  | const v => rfl
  | global g => rfl
  | func f => rfl
theorem put_h (S : IS) (d : Option Tmp) (v : IV) : (S.put d v).h = S.h := by cases d <;> rfl
theorem put_get (S : IS) (d : Option Tmp) (v : IV) (i : Nat) : (S.put d v).get i = if d = some i then v else S.get i := by
  cases d with
  | none => simp [IS.put]
  | some d => simp only [IS.put, IS.get, TT.get_set, Option.some.injEq]
theorem putF_if (T : Nat → SV) (d : Option Tmp) (v : SV) (i : Nat) : putF T d v i = if d = some i then v else T i := by
  cases d with
  | none => simp [putF]
  | some d =>
    simp only [putF, Option.some.injEq]
    by_cases h : d = i
    · subst h; simp
    · rw [show Nat.beq d i = false by rw [← Bool.not_eq_true, Nat.beq_eq]; exact h]; simp [h]
theorem DS.put {ρ : Nat → Nat} {S : IS} {T : Nat → SV} {h : Heap} (H : DS ρ S T h) (d : Option Tmp) (v : IV) : DS ρ (S.put d v) (putF T d (v.den ρ)) h where
  t := fun i => by
    rw [putF_if, put_get]
    split
    · rfl
    · exact H.t i
  hd := by rw [put_h]; exact H.hd
/-! ### the names on which something hangs -/
def SupV (I : Nat → Prop) (v : IV) : Prop := ∀ ρ ρ' : Nat → Nat, (∀ n, I n → ρ n = ρ' n) → v.den ρ = v.den ρ'
structure SupS (I : Nat → Prop) (S : IS) : Prop where
  t : ∀ i, SupV I (S.get i)
  n : ∀ x ∈ S.h, I x.1
  h : ∀ x ∈ S.h, ∀ c ∈ x.2, SupV I c
theorem SupV.mono {I J : Nat → Prop} (hIJ : ∀ n, I n → J n) {v : IV} (h : SupV I v) : SupV J v := fun ρ ρ' e => h ρ ρ' fun n hn => e n (hIJ n hn)
theorem SupS.mono {I J : Nat → Prop} (hIJ : ∀ n, I n → J n) {S : IS} (h : SupS I S) : SupS J S := ⟨fun i => (h.t i).mono hIJ, fun x hx => hIJ _ (h.n x hx), fun x hx c hc => (h.h x hx c hc).mono hIJ⟩
theorem SupV.any (I : Nat → Prop) : SupV I .any := fun _ _ _ => rfl
theorem SupV.sc (I : Nat → Prop) (v : Value) : SupV I (.sc v) := fun _ _ _ => rfl
theorem SupS.ev {I : Nat → Prop} {S : IS} (H : SupS I S) (x : Operand) : SupV I (S.ev x) := by
  cases x with
  | tmp i => exact H.t i
  | const v => exact .sc _ _
  | global g => exact fun _ _ _ => rfl
  | func f => exact fun _ _ _ => rfl
theorem SupS.put {I : Nat → Prop} {S : IS} (H : SupS I S) (d : Option Tmp) {v : IV} (hv : SupV I v) : SupS I (S.put d v) where
  t := fun i => by
    rw [put_get]
    split
    · exact hv
    · exact H.t i
  n := by rw [put_h]; exact H.n
  h := by rw [put_h]; exact H.h
theorem map_den_eq {I : Nat → Prop} {l : List IV} (h : ∀ c ∈ l, SupV I c) {ρ ρ' : Nat → Nat} (e : ∀ n, I n → ρ n = ρ' n) : l.map (IV.den ρ) = l.map (IV.den ρ') :=
  List.map_congr_left fun c hc => h c hc ρ ρ' e
theorem SupV.getD {I : Nat → Prop} {l : List IV} (h : ∀ c ∈ l, SupV I c) (i : Nat) : SupV I (l.getD i .any) := by
  rw [List.getD_eq_getElem?_getD]
  cases he : l[i]? with
  | none => exact .any _
  | some x => exact h x (List.mem_of_getElem? he)
theorem hd_nil (ρ : Nat → Nat) : HD ρ [] [] where
  nd := by simp [Nd]
  ind := by simp [INd]
  inj := fun x hx => by cases hx
  back := fun b ⟨k, hk⟩ => by cases hk
  find := fun x hx => by cases hx
theorem valI_nil {P : Program} {op : Op} {ε : Operand → IV} {ih : IHeap} (hl : ∀ t x, op ≠ .load t x) (hl2 : ∀ t x k ok, op ≠ .lookup t x k ok) : valI P op ε ih = valI P op ε [] := by
  cases op with
  | load t x => exact absurd rfl (hl t x)
  | lookup t x k ok => exact absurd rfl (hl2 t x k ok)
  | call c => unfold valI; split <;> first | rfl | simp_all
  | _ => rfl
theorem agg_sup {I : Nat → Prop} {l : List IV} (h : ∀ c ∈ l, SupV I c) : SupV I (.agg l) := fun ρ ρ' e => by
  simp only [IV.den, IV.denL_map, map_den_eq h e]
theorem bif_not_new {c : Bool} {r r' : IRes} {cs : List IV} {mk : Nat → IV} (h1 : r ≠ .new cs mk) (h2 : r' ≠ .new cs mk) : (bif c then r else r') ≠ .new cs mk := by
  cases c
  · exact h2
  · exact h1
theorem load_not_new (T : Option (Bool × Nat)) (x : IV) (h : IHeap) (cs : List IV) (mk : Nat → IV) : loadIV T x h ≠ .new cs mk := by
  unfold loadIV
  split
  · split
    · exact bif_not_new (bif_not_new (fun e => by cases e) (fun e => by cases e)) (bif_not_new (fun e => by cases e) (fun e => by cases e))
    · exact fun e => by cases e
  · exact fun e => by cases e
theorem valI_sup {P : Program} {op : Op} {S : IS} {I : Nat → Prop} (H : SupS I S) : match valI P op S.ev S.h with
    | .bad => True
    | .ok v => SupV I v
    | .new cs mk => (∀ c ∈ cs, SupV I c) ∧ ∀ n, SupV (fun m => m = n) (mk n) := by
  by_cases hl : ∃ t x, op = .load t x
  · obtain ⟨t, x, rfl⟩ := hl
    have hx := H.ev x
    simp only [valI]
    unfold loadIV
    split
    · trivial
    · rename_i v hv
      split at hv
      · rename_i g n b off _ _
        split at hv
        · rename_i k hk
          have hc := H.h _ (ifind_mem (ifindC_raw hk).1)
          cases g
          · simp only [cond_false] at hv
            cases hb : Nat.blt off k.length with
            | true => rw [hb] at hv; cases hv; exact .getD hc _
            | false => rw [hb] at hv; cases hv
          · simp only [cond_true] at hv
            cases hb : Nat.ble (off + n) k.length with
            | true => rw [hb] at hv; cases hv; exact agg_sup fun c hm => hc c (List.mem_of_mem_drop (List.mem_of_mem_take hm))
            | false => rw [hb] at hv; cases hv
        · cases hv
      · cases hv
    · rename_i cs mk hv
      exact absurd hv (load_not_new _ _ _ _ _)
  · by_cases hlk : ∃ t x k ok, op = .lookup t x k ok
    · obtain ⟨t, x, k, ok, rfl⟩ := hlk
      have hR : ∀ r : Option (Option (Nat × Value)), ∀ z, match lookRI ok z r with
          | .bad => True
          | .ok v => SupV I v
          | .new cs mk => (∀ c ∈ cs, SupV I c) ∧ ∀ n, SupV (fun m => m = n) (mk n) := fun r z => by
        rcases r with _ | _ | ⟨_, v⟩
        · trivial
        · cases ok <;> exact fun _ _ _ => rfl
        · cases ok <;> exact fun _ _ _ => rfl
      show match lookIV (mtk P t) ok (S.ev x) (S.ev k) S.h with
        | .bad => True
        | .ok v => SupV I v
        | .new cs mk => (∀ c ∈ cs, SupV I c) ∧ ∀ n, SupV (fun m => m = n) (mk n)
      unfold lookIV
      cases mtk P t with
      | none => trivial
      | some cz =>
        obtain ⟨c, z⟩ := cz
        cases S.ev x with
        | mp b =>
          cases S.ev k with
          | sc a =>
            simp only
            cases ifind S.h b with
            | none => trivial
            | some cs =>
              simp only
              cases mapOf cs with
              | none => trivial
              | some l =>
                simp only
                cases kkOk c a with
                | false => trivial
                | true => exact hR (mfI c a l 0) z
          | _ => trivial
        | _ => trivial
    have hl' : ∀ t x, op ≠ .load t x := fun t x e => hl ⟨t, x, e⟩
    rw [valI_nil hl' (fun t x k ok e => hlk ⟨t, x, k, ok, e⟩)]
    have m := fun ρ => valI_ok (P := P) (op := op) (ε := S.ev) (e := fun x => (S.ev x).den ρ) (ρ := ρ) (fun _ => rfl) (hd_nil ρ)
    have ee : ∀ ρ ρ' : Nat → Nat, (∀ n, I n → ρ n = ρ' n) → (fun x => (S.ev x).den ρ) = (fun x => (S.ev x).den ρ') := fun ρ ρ' e => funext fun x => H.ev x ρ ρ' e
    generalize hR : valI P op S.ev [] = R at m
    cases R with
    | bad => trivial
    | ok v =>
      intro ρ ρ' e
      obtain ⟨p1, h1, _⟩ := m ρ
      obtain ⟨p2, h2, _⟩ := m ρ'
      rw [ee ρ ρ' e, h2] at h1
      injection h1 with _ h1
      exact h1.symm
    | new cs mk =>
      refine ⟨fun c hc ρ ρ' e => ?_, fun n ρ ρ' e => ?_⟩
      · obtain ⟨p1, k1, f1, h1, _, c1, _⟩ := m ρ
        obtain ⟨p2, k2, f2, h2, _, c2, _⟩ := m ρ'
        rw [ee ρ ρ' e, h2] at h1
        cases h1
        rw [c1] at c2
        obtain ⟨i, hi, rfl⟩ := List.mem_iff_getElem.1 hc
        have := congrArg (fun l => l.getD i .any) c2
        simp only [den_getD] at this
        rw [getD_list _ _ _ hi] at this
        exact this
      · obtain ⟨p1, k1, f1, h1, _, c1, m1⟩ := m ρ
        rw [← m1 ρ n, ← m1 ρ' n, e n rfl]
/-! ### names and blocks -/
def Agr (lo sz : Nat) (ρ ρ' : Nat → Nat) : Prop := ∀ n, ¬ (lo ≤ n ∧ n < lo + sz) → ρ' n = ρ n
theorem Agr.refl (lo sz : Nat) (ρ : Nat → Nat) : Agr lo sz ρ ρ := fun _ _ => rfl
def Out (I : Nat → Prop) (lo sz : Nat) : Prop := ∀ n, lo ≤ n → n < lo + sz → ¬ I n
def Plus (I : Nat → Prop) (lo sz : Nat) : Nat → Prop := fun n => I n ∨ (lo ≤ n ∧ n < lo + sz)
theorem Agr.on {lo sz : Nat} {ρ ρ' : Nat → Nat} {I : Nat → Prop} (h : Agr lo sz ρ ρ') (hI : Out I lo sz) : ∀ n, I n → ρ n = ρ' n := fun n hn => (h n (fun x => hI n x.1 x.2 hn)).symm
theorem hd_agree {ρ ρ' : Nat → Nat} {I : Nat → Prop} {ih : IHeap} {h : Heap} (H : HD ρ ih h) (hn : ∀ x ∈ ih, I x.1) (hs : ∀ x ∈ ih, ∀ c ∈ x.2, SupV I c) (e : ∀ n, I n → ρ n = ρ' n) : HD ρ' ih h where
  nd := H.nd
  ind := H.ind
  inj := fun x hx y hy he => H.inj x hx y hy (by rw [e _ (hn x hx), e _ (hn y hy)]; exact he)
  back := fun b hb => by obtain ⟨x, hx, hb⟩ := H.back b hb; exact ⟨x, hx, by rw [← e _ (hn x hx)]; exact hb⟩
  find := fun x hx => by
    obtain ⟨k, h1, h2⟩ := H.find x hx
    exact ⟨k, by rw [← e _ (hn x hx)]; exact h1, by rw [h2.1]; exact map_den_eq (fun c hc => hs x hx c (plainI_mem hc)) e, h2.2⟩
theorem DS.agree {ρ ρ' : Nat → Nat} {I : Nat → Prop} {S : IS} {T : Nat → SV} {h : Heap} (H : DS ρ S T h) (hs : SupS I S) (e : ∀ n, I n → ρ n = ρ' n) : DS ρ' S T h :=
  ⟨fun i => by rw [H.t i]; exact hs.t i ρ ρ' e, hd_agree H.hd hs.n hs.h e⟩
def upn (ρ : Nat → Nat) (nm b : Nat) : Nat → Nat := fun n => if n = nm then b else ρ n
theorem upn_same (ρ : Nat → Nat) (nm b : Nat) : upn ρ nm b nm = b := by simp [upn]
theorem upn_other {ρ : Nat → Nat} {nm b n : Nat} (h : n ≠ nm) : upn ρ nm b n = ρ n := by simp [upn, h]
theorem upn_agr {ρ : Nat → Nat} {nm b sz : Nat} (hsz : 0 < sz) : Agr nm sz ρ (upn ρ nm b) := fun n hn => upn_other (fun e => hn ⟨by omega, by omega⟩)
theorem iins_nd {ih : IHeap} {nm : Nat} {cs : List IV} (hn : INd ih) (hx : ∀ x ∈ ih, x.1 ≠ nm) : INd (iins ih nm cs) := by
  unfold INd at *
  induction ih with
  | nil => simp [iins]
  | cons y r ihh =>
    obtain ⟨c, k⟩ := y
    rw [List.map_cons, List.nodup_cons] at hn
    simp only [iins]
    cases Nat.ble c nm with
    | true =>
      simp only [cond_true, List.map_cons, List.nodup_cons, List.mem_cons, not_or]
      refine ⟨⟨Ne.symm (hx _ List.mem_cons_self), fun hm => ?_⟩, hn⟩
      obtain ⟨x, hxm, he⟩ := List.mem_map.1 hm
      exact hx x (List.mem_cons_of_mem _ hxm) he
    | false =>
      simp only [cond_false, List.map_cons, List.nodup_cons]
      refine ⟨fun hm => ?_, ihh hn.2 (fun x hxm => hx x (List.mem_cons_of_mem _ hxm))⟩
      obtain ⟨x, hxm, he⟩ := List.mem_map.1 hm
      rcases mem_iins.1 hxm with rfl | hxm
      · exact hx _ List.mem_cons_self he.symm
      · exact hn.1 (List.mem_map.2 ⟨x, hxm, he⟩)
theorem HD.new {ρ : Nat → Nat} {I : Nat → Prop} {ih : IHeap} {h : Heap} {nm b : Nat} {k : Blk} {cs : List IV} (H : HD ρ ih h) (hn : ∀ x ∈ ih, I x.1) (hs : ∀ x ∈ ih, ∀ c ∈ x.2, SupV I c) (hI : ¬ I nm) (hc : ∀ c ∈ cs, SupV I c)
    (hf : fresh h b) (hk : IsB ρ k cs) : HD (upn ρ nm b) (iins ih nm cs) ((b, k) :: h) := by
  have e : ∀ n, I n → ρ n = upn ρ nm b n := fun n hn => (upn_other (fun e => hI (by rw [← e]; exact hn))).symm
  have hne : ∀ x ∈ ih, x.1 ≠ nm := fun x hx e => hI (by rw [← e]; exact hn x hx)
  have H' := hd_agree H hn hs e
  have hb : ∀ x ∈ ih, ρ x.1 ≠ b := fun x hx he => by
    obtain ⟨k', h1, _⟩ := H.find x hx
    exact not_has_of_fresh hf ⟨k', he ▸ Heap.find_mem h1⟩
  refine ⟨nd_cons H.nd hf, iins_nd H.ind hne, fun x hx y hy he => ?_, fun c hc' => ?_, fun x hx => ?_⟩
  · rcases mem_iins.1 hx with rfl | hx
    · rcases mem_iins.1 hy with rfl | hy
      · rfl
      · rw [upn_same, ← e _ (hn y hy)] at he; exact absurd he.symm (hb y hy)
    · rcases mem_iins.1 hy with rfl | hy
      · rw [upn_same, ← e _ (hn x hx)] at he; exact absurd he (hb x hx)
      · exact H'.inj x hx y hy he
  · rcases has_cons.1 hc' with rfl | hc'
    · exact ⟨_, mem_iins.2 (.inl rfl), upn_same _ _ _⟩
    · obtain ⟨x, hx, hh⟩ := H'.back c hc'; exact ⟨x, mem_iins.2 (.inr hx), hh⟩
  · rcases mem_iins.1 hx with rfl | hx
    · exact ⟨k, by simp only [upn_same]; simp [Heap.find], by rw [hk.1]; exact map_den_eq (fun c h => hc c (plainI_mem h)) e, hk.2⟩
    · obtain ⟨k', h1, h2⟩ := H'.find x hx
      refine ⟨k', ?_, h2⟩
      simp only [Heap.find]
      rw [if_neg (fun he => hb x hx (by rw [e _ (hn x hx)]; exact he.symm))]
      exact h1
theorem find_upd {h : Heap} {b c : Nat} {k k0 : Blk} (hf : h.find b = some k0) : (h.upd b k).find c = if c = b then some k else h.find c := by
  induction h with
  | nil => cases hf
  | cons x r ih =>
    obtain ⟨d, k'⟩ := x
    simp only [Heap.find] at hf
    simp only [Heap.upd]
    by_cases hd : d = b
    · subst hd
      rw [if_pos rfl]
      simp only [Heap.find]
      by_cases hc : d = c
      · subst hc; simp
      · rw [if_neg hc, if_neg (Ne.symm hc), if_neg hc]
    · rw [if_neg hd] at hf ⊢
      simp only [Heap.find]
      rw [ih hf]
      by_cases hc : d = c
      · subst hc; simp [hd]
      · simp [hc]
theorem HD.upd {ρ : Nat → Nat} {ih : IHeap} {h : Heap} {n : Nat} {k0 k : Blk} {c0 cs : List IV} (H : HD ρ ih h) (hi : ifind ih n = some c0) (hf : h.find (ρ n) = some k0) (hk : IsB ρ k cs) :
    HD ρ (iupd ih n cs) (h.upd (ρ n) k) := by
  have hm := ifind_mem hi
  have im : ∀ x, x ∈ iupd ih n cs ↔ x = (n, cs) ∨ (x ∈ ih ∧ x.1 ≠ n) := fun x => mem_iupd_iff H.ind hm
  have fst : ∀ x ∈ iupd ih n cs, ∃ y ∈ ih, y.1 = x.1 := fun x hx => by
    rcases (im x).1 hx with rfl | ⟨hx, _⟩
    · exact ⟨_, hm, rfl⟩
    · exact ⟨x, hx, rfl⟩
  refine ⟨by unfold Nd; rw [map_upd]; exact H.nd, by unfold INd; rw [iupd_fst]; exact H.ind, fun x hx y hy he => ?_, fun b hb => ?_, fun x hx => ?_⟩
  · obtain ⟨x', hx', ex⟩ := fst x hx
    obtain ⟨y', hy', ey⟩ := fst y hy
    rw [← ex, ← ey] at he ⊢
    exact H.inj x' hx' y' hy' he
  · obtain ⟨x, hx, he⟩ := H.back b (has_upd.1 hb)
    by_cases hxn : x.1 = n
    · exact ⟨_, (im _).2 (.inl rfl), by rw [← he, hxn]⟩
    · exact ⟨x, (im x).2 (.inr ⟨hx, hxn⟩), he⟩
  · rcases (im x).1 hx with rfl | ⟨hx, hxn⟩
    · exact ⟨k, by rw [find_upd hf, if_pos rfl], hk⟩
    · obtain ⟨k', h1, h2⟩ := H.find x hx
      exact ⟨k', by rw [find_upd hf, if_neg (fun he => hxn (H.inj x hx _ hm he))]; exact h1, h2⟩
theorem find_del {h : Heap} {b c : Nat} (hn : Nd h) (hne : c ≠ b) : (h.del b).find c = h.find c := by
  induction h with
  | nil => rfl
  | cons x r ih =>
    obtain ⟨d, k'⟩ := x
    unfold Nd at hn
    rw [List.map_cons, List.nodup_cons] at hn
    simp only [Heap.del]
    split
    · rename_i hd; subst hd; simp only [Heap.find]; rw [if_neg (Ne.symm hne)]
    · simp only [Heap.find, ih hn.2]
theorem idel_nd {ih : IHeap} {n : Nat} (hn : INd ih) : INd (idel ih n) := by
  unfold INd at *
  induction ih with
  | nil => simp [idel]
  | cons y r ihh =>
    obtain ⟨c, k⟩ := y
    rw [List.map_cons, List.nodup_cons] at hn
    simp only [idel]
    cases Nat.beq c n with
    | true => exact ihh hn.2
    | false =>
      simp only [cond_false, List.map_cons, List.nodup_cons]
      refine ⟨fun hm => ?_, ihh hn.2⟩
      obtain ⟨x, hxm, he⟩ := List.mem_map.1 hm
      exact hn.1 (List.mem_map.2 ⟨x, (mem_idel.1 hxm).1, he⟩)
theorem HD.del {ρ : Nat → Nat} {ih : IHeap} {h : Heap} {n : Nat} {c0 : List IV} (H : HD ρ ih h) (hi : ifind ih n = some c0) : HD ρ (idel ih n) (h.del (ρ n)) := by
  have hm := ifind_mem hi
  refine ⟨del_nodup H.nd, idel_nd H.ind, fun x hx y hy => H.inj x (mem_idel.1 hx).1 y (mem_idel.1 hy).1, fun b hb => ?_, fun x hx => ?_⟩
  · obtain ⟨x, hx, he⟩ := H.back b (has_del hb)
    refine ⟨x, mem_idel.2 ⟨hx, fun e => ?_⟩, he⟩
    rw [← he, e] at hb
    exact del_not H.nd hb
  · obtain ⟨hx, hxn⟩ := mem_idel.1 hx
    obtain ⟨k', h1, h2⟩ := H.find x hx
    exact ⟨k', by rw [find_del H.nd (fun he => hxn (H.inj x hx _ hm he))]; exact h1, h2⟩
theorem HD.perm {ρ : Nat → Nat} {ih : IHeap} {h h' : Heap} (H : HD ρ ih h) (hn : Nd h') (hm : ∀ x, x ∈ h' ↔ x ∈ h) : HD ρ ih h' :=
  ⟨hn, H.ind, H.inj, fun b ⟨k, hk⟩ => H.back b ⟨k, (hm _).1 hk⟩, fun x hx => by
    obtain ⟨k, h1, h2⟩ := H.find x hx
    exact ⟨k, find_of_mem hn ((hm _).2 (Heap.find_mem h1)), h2⟩⟩
theorem mem_ren_iff {h : Heap} {b b' : Nat} {k0 k : Blk} (hn : Nd h) (hf : h.find b = some k0) (x : Nat × Blk) : x ∈ h.ren b b' k ↔ x ∈ (b', k) :: h.del b := by
  induction h with
  | nil => cases hf
  | cons y r ih =>
    obtain ⟨c, k'⟩ := y
    unfold Nd at hn
    rw [List.map_cons, List.nodup_cons] at hn
    simp only [Heap.find] at hf
    simp only [Heap.ren, Heap.del]
    by_cases hc : c = b
    · rw [if_pos hc, if_pos hc]
    · rw [if_neg hc] at hf
      rw [if_neg hc, if_neg hc]
      simp only [List.mem_cons]
      rw [ih hn.2 hf]
      simp only [List.mem_cons]
      exact ⟨fun h => h.elim (fun h => .inr (.inl h)) (fun h => h.elim .inl (fun h => .inr (.inr h))), fun h => h.elim (fun h => .inr (.inl h)) (fun h => h.elim .inl (fun h => .inr (.inr h)))⟩
end Go.Ab
/-! Ax: One operation of the reading. -/
namespace Go.Ab
open Go.RowKit
variable [Gl]
abbrev CallI := Nat → FuncId → List IV → IHeap → Option (IV × IHeap)
def CallOK (P : Program) (call : CallI) (sz : Nat) : Prop := ∀ nm g args h r h', call nm g args h = some (r, h') → ∀ I : Nat → Prop, Out I nm sz → (∀ v ∈ args, SupV I v) → SupS I ⟨.nil, h⟩ →
  SupV (Plus I nm sz) r ∧ SupS (Plus I nm sz) ⟨.nil, h'⟩ ∧
  ∀ ρ H, HD ρ h H → Call P g (args.map (IV.den ρ)) H (fun R H' => ∃ ρ', Agr nm sz ρ ρ' ∧ R = r.den ρ' ∧ HD ρ' h' H')
def dOk (N : Nat) (d : Option Tmp) : Bool := match d with
  | some i => Nat.blt i N
  | none => true
theorem dOk_ok {N : Nat} {d : Option Tmp} (h : dOk N d = true) : dstOk N d := by
  cases d with
  | none => trivial
  | some d =>
    have h' : Nat.blt d N = true := h
    rw [Nat.blt_eq] at h'
    exact h'
def stX (op : Op) : Bool := stableOp op && !callOp op
def srcI (size : Nat) (x : IV) (h : IHeap) : Option (Nat × List IV) :=
  match x with
  | .os b off n sz => match ifindC h b with
    | some k => bif Nat.beq sz size && Nat.ble (off + n * sz) k.length then some (n, (k.drop off).take (n * sz)) else none
    | none => none
  | .sc (.slice none 0 0) => some (0, [])
  | .sc (.string s) => bif Nat.beq size 1 then some (s.size, s.data.toList.map fun b => .sc (.int .u8 b.toNat)) else none
  | _ => none
noncomputable def appI (nm : Nat) (L : Option (TypeId × Nat × Nat)) (Z : Option (List Value)) (s x : IV) (dst : Option Tmp) (S : IS) : Option IS :=
  match L, Z with
  | some (_, size, bytes), some z => match srcI size x S.h with
    | some (n, cs) => bif cs.all isingle && Nat.beq z.length size && Nat.blt 0 size then
      (match s with
      | .sc (.slice none 0 0) => bif Nat.ble (n * bytes) 140737488355328 && Nat.ble n 140737488355328 then
          (match n with
          | 0 => some (S.put dst (.sc (.slice none 0 0)))
          | m + 1 => some ((⟨S.t, iins S.h nm cs⟩ : IS).put dst (.os nm 0 (m + 1) size)))
          else none
      | .os b off len sz => match ifindC S.h b with
        | some k => bif Nat.beq off 0 && Nat.beq sz size && Nat.beq (len * sz) k.length && Nat.ble ((len + n) * bytes) 140737488355328 && Nat.ble (len + n) 140737488355328 then
            some ((⟨S.t, iins (idel S.h b) nm (k ++ cs)⟩ : IS).put dst (.os nm 0 (len + n) sz)) else none
        | none => none
      | _ => none) else none
    | none => none
  | _, _ => none
noncomputable def appZI (nm : Nat) (L : Option (TypeId × Nat × Nat)) (Z : Option (List Value)) (s x : IV) (dst : Option Tmp) (S : IS) : Option IS :=
  match L, Z, s, x with
  | some (_, size, bytes), some z, .sc (.slice none 0 0), .sc (.int .i64 (.ofNat n)) => bif Nat.beq z.length size && Nat.blt 0 size && Nat.blt 0 n && Nat.ble (n * bytes) 140737488355328 && Nat.ble n 140737488355328 then
      some ((⟨S.t, iins S.h nm (izfill z n)⟩ : IS).put dst (.os nm 0 n size)) else none
  | _, _, _, _ => none
def cutI (s : IV) (h : IHeap) : IHeap := match s with
  | .os b _ len sz => match ifindC h b with
    | some k => bif Nat.blt (len * sz) k.length && (mapOf (k.take (len * sz))).isNone then iupd h b (k.take (len * sz)) else h
    | none => h
  | _ => h
def hintI (r : Option IV) : Bool := match r with
  | none => true
  | some (.sc (.int _ _)) => true
  | _ => false
noncomputable def mputI (T : Option (KK × Value)) (m k x : IV) (dst : Option Tmp) (S : IS) : Option IS := match T, m, k, x with
  | some (c, _), .mp b, .sc a, .sc v => match ifind S.h b with
    | some cs => match mapOf cs with
      | some l => bif kkOk c a then (match mfI c a l 0 with
        | some r => some ((⟨S.t, iupd S.h b [.mpv (mset a v l r)]⟩ : IS).put dst .any)
        | none => none) else none
      | none => none
    | none => none
  | _, _, _, _ => none
noncomputable def effI (P : Program) (call : CallI) (nm : Nat) (op : Op) (dst : Option Tmp) (S : IS) : Option IS :=
  match op with
  | .store t a v => match tk P t, S.ev a, icells (S.ev v) with
    | some (_, n), .op b off, some cs => match ifindC S.h b with
      | some k => bif Nat.beq cs.length n && Nat.ble (off + n) k.length then some ((⟨S.t, iupd S.h b (isetAll k off cs)⟩ : IS).put dst .any) else none
      | none => none
    | _, _, _ => none
  | .call ⟨.value f, args, _⟩ => match S.ev f with
    | .fn (.func g) first captured => match call nm g (first ++ args.toList.map S.ev ++ captured) S.h with
      | some (r, h') => some ((⟨S.t, h'⟩ : IS).put dst r)
      | none => none
    | _ => none
  | .call ⟨.builtin .append, ⟨[s, x]⟩, ⟨[st, xt]⟩⟩ => bif notInt P xt then appI nm (slk P st) (elemZ P st) (S.ev s) (S.ev x) dst ⟨S.t, cutI (S.ev s) S.h⟩
      else bif (ik P xt).isSome then appZI nm (slk P st) (elemZ P st) (S.ev s) (S.ev x) dst S else none
  | .makeMap t r => bif isMp P t && hintI (r.map S.ev) then some ((⟨S.t, iins S.h nm [.mpv []]⟩ : IS).put dst (.mp nm)) else none
  | .mapUpdate t m k x => mputI (mtk P t) (S.ev m) (S.ev k) (S.ev x) dst S
  | .insert t m k x => mputI (mtk P t) (S.ev m) (S.ev k) (S.ev x) dst S
  | _ => none
noncomputable def stepI (P : Program) (call : CallI) (N nm : Nat) (o : Oper) (S : IS) : Option IS :=
  bif dOk N o.dst then
    match valI P o.op S.ev S.h with
    | .ok v => some (S.put o.dst v)
    | .new cs mk => bif stX o.op || (mapOf cs).isSome then none else some ((⟨S.t, iins S.h nm cs⟩ : IS).put o.dst (mk nm))
    | .bad => effI P call nm o.op o.dst S
  else none
section
variable {P : Program} {N : Nat}
def TK (K : (Nat → SV) → Heap → Prop) : St → Prop := fun S => K (look S.t) S.h
theorem TK_put {K : (Nat → SV) → Heap → Prop} {t : List (Nat × SV)} {h : Heap} {d : Option Tmp} {v : SV} (hk : K (putF (look t) d v) h) : TK K ((⟨t, h⟩ : St).put d v) := by
  unfold TK
  rw [look_put, h_put]
  exact hk
theorem SupS.heap {I : Nat → Prop} {t t' : TT} {h : IHeap} (H : SupS I ⟨t, h⟩) (ht : ∀ i, SupV I (t'.get i)) : SupS I ⟨t', h⟩ := ⟨ht, H.n, H.h⟩
theorem supS_nil_t {I : Nat → Prop} {t : TT} {h : IHeap} (H : SupS I ⟨t, h⟩) : SupS I ⟨.nil, h⟩ := ⟨fun i => .any _, H.n, H.h⟩
theorem srcI_ok {size n : Nat} {x : IV} {ih : IHeap} {cs : List IV} {ρ : Nat → Nat} {h : Heap} (hs : srcI size x ih = some (n, cs)) (H : HD ρ ih h) :
    srcCells (x.den ρ) h = some (n, cs.map (IV.den ρ)) ∧ srcOk size (x.den ρ) h := by
  unfold srcI at hs
  split at hs
  · rename_i b off m sz
    split at hs
    · rename_i k hk
      obtain ⟨kk, hf, hc⟩ := H.get hk
      cases hb : (Nat.beq sz size && Nat.ble (off + m * sz) k.length) with
      | false => rw [hb] at hs; cases hs
      | true =>
        rw [hb] at hs
        cases hs
        rw [Bool.and_eq_true, Nat.beq_eq, Nat.ble_eq] at hb
        refine ⟨?_, ?_⟩
        · simp only [IV.den, src_os, hf, getN_I hc _ _ hb.2]
        · simp only [IV.den, srcOk_os, hf]
          exact ⟨hb.1, by rw [Blk.lenI hc]; exact hb.2⟩
    · cases hs
  · cases hs
    exact ⟨rfl, trivial⟩
  · rename_i s
    cases hb : Nat.beq size 1 with
    | false => rw [hb] at hs; cases hs
    | true =>
      rw [hb] at hs
      cases hs
      rw [Nat.beq_eq] at hb
      refine ⟨?_, hb⟩
      simp only [IV.den, srcCells, List.map_map]
      rfl
  · cases hs
theorem srcI_sup {size n : Nat} {x : IV} {S : IS} {cs : List IV} {I : Nat → Prop} (hs : srcI size x S.h = some (n, cs)) (H : SupS I S) : ∀ c ∈ cs, SupV I c := by
  unfold srcI at hs
  split at hs
  · rename_i b off m sz
    split at hs
    · rename_i k hk
      have hc := H.h _ (ifind_mem (ifindC_raw hk).1)
      cases hb : (Nat.beq sz size && Nat.ble (off + m * sz) k.length) with
      | false => rw [hb] at hs; cases hs
      | true => rw [hb] at hs; cases hs; exact fun c hm => hc c (List.mem_of_mem_drop (List.mem_of_mem_take hm))
    · cases hs
  · cases hs; exact fun c hm => by cases hm
  · cases hb : Nat.beq size 1 with
    | false => rw [hb] at hs; cases hs
    | true =>
      rw [hb] at hs
      cases hs
      intro c hm
      obtain ⟨b, _, rfl⟩ := List.mem_map.1 hm
      exact .sc _ _
  · cases hs
def stepE (P : Program) (N : Nat) (o : Oper) (K : St → Prop) (S : St) : Prop := ∃ h', (∀ t, (St.mk t S.h).le ⟨t, h'⟩) ∧ stepK P N o K ⟨S.t, h'⟩
theorem stepE_of {o : Oper} {K : St → Prop} {S : St} (h : stepK P N o K S) : stepE P N o K S := ⟨S.h, fun t => .refl _, h⟩
theorem stepE_mono {o : Oper} {K K' : St → Prop} {S : St} (hK : ∀ S, K S → K' S) (h : stepE P N o K S) : stepE P N o K' S := by
  obtain ⟨h', h1, h2⟩ := h
  exact ⟨h', h1, stepK_mono hK h2⟩
theorem stepE_sound {M : Nat → Prop} {w0 : World} {D : Nat → Prop} {S : St} {a : Act} {w : World} {o : Oper} {K : St → Prop} {Q : Exit → Act → World → Prop} (hr : Rel M w0 D N S a w) (h : stepE P N o K S) : o.wp P a w (After M w0 D N K) Q := by
  obtain ⟨h', h1, h2⟩ := h
  exact stepK_sound (h1 S.t _ _ _ _ _ _ hr) h2
theorem cutI_sup {s : IV} {S : IS} {I : Nat → Prop} (H : SupS I S) : SupS I ⟨S.t, cutI s S.h⟩ := by
  have triv : SupS I ⟨S.t, S.h⟩ := H
  unfold cutI
  split
  · rename_i b o len sz
    split
    · rename_i k hk
      cases (Nat.blt (len * sz) k.length && (mapOf (k.take (len * sz))).isNone) with
      | false => exact triv
      | true =>
        refine ⟨H.t, fun x hx => ?_, fun x hx => ?_⟩
        · rcases mem_iupd hx with rfl | hx
          · exact H.n (b, k) (ifind_mem (ifindC_raw hk).1)
          · exact H.n x hx
        · rcases mem_iupd hx with rfl | hx
          · exact fun c hm => H.h (b, k) (ifind_mem (ifindC_raw hk).1) c (List.mem_of_mem_take hm)
          · exact H.h x hx
    · exact triv
  · exact triv
theorem cutI_ok {s : IV} {S : IS} {ρ : Nat → Nat} {T : Nat → SV} {h : Heap} (Dd : DS ρ S T h) : ∃ h', (∀ t, (St.mk t h).le ⟨t, h'⟩) ∧ DS ρ ⟨S.t, cutI s S.h⟩ T h' := by
  have triv : ∃ h', (∀ t, (St.mk t h).le ⟨t, h'⟩) ∧ DS ρ ⟨S.t, S.h⟩ T h' := ⟨h, fun t => .refl _, Dd⟩
  unfold cutI
  split
  · rename_i b o len sz
    split
    · rename_i k hk
      cases hlt2 : (Nat.blt (len * sz) k.length && (mapOf (k.take (len * sz))).isNone) with
      | false => exact triv
      | true =>
        rw [Bool.and_eq_true, Option.isNone_iff_eq_none] at hlt2
        obtain ⟨hlt, hmn⟩ := hlt2
        obtain ⟨kk, hf, hc⟩ := Dd.hd.get hk
        refine ⟨h.upd (ρ b) (.svs (kk.cells.take (len * sz))), fun t => St.le_cut (len * sz) hf rfl (Blk.isM_lt (i := len * sz) (by rw [Blk.lenI hc]; rw [Nat.blt_eq] at hlt; exact hlt)) rfl, ⟨Dd.t, Dd.hd.upd (ifindC_raw hk).1 hf ?_⟩⟩
        refine IsB.of hmn ?_
        show kk.cells.take _ = _
        rw [hc, List.map_take]
    · exact triv
  · exact triv
structure StepOK (P : Program) (N : Nat) (o : Oper) (nm sz : Nat) (I : Nat → Prop) (S S' : IS) : Prop where
  sup : SupS (Plus I nm sz) S'
  run : ∀ ρ (S0 : St), DS ρ S (look S0.t) S0.h → ∀ K : (Nat → SV) → Heap → Prop, (∀ ρ' T' h', Agr nm sz ρ ρ' → DS ρ' S' T' h' → K T' h') → stepE P N o (TK K) S0
  st : stX o.op = true → dstOk N o.dst ∧ ∃ v, S' = S.put o.dst v ∧ ∀ ρ T h, DS ρ S T h → ∃ pre, valOp P o.op (evF T) h = .ok pre (v.den ρ) ∧ pre
theorem plus_l {I : Nat → Prop} {nm sz : Nat} : ∀ n, I n → Plus I nm sz n := fun n h => .inl h
theorem new_sup {I : Nat → Prop} {nm sz : Nat} {S : IS} {cs : List IV} {v : IV} {d : Option Tmp} (hz : 0 < sz) (H : SupS I S) (hc : ∀ c ∈ cs, SupV I c) (hv : SupV (fun m => m = nm) v) {ih : IHeap} (hih : ∀ x ∈ ih, x ∈ S.h) :
    SupS (Plus I nm sz) ((⟨S.t, iins ih nm cs⟩ : IS).put d v) := by
  refine SupS.put (S := ⟨S.t, iins ih nm cs⟩) ⟨fun i => (H.t i).mono plus_l, fun x hx => ?_, fun x hx => ?_⟩ d (hv.mono fun n (hn : n = nm) => .inr (by subst hn; exact ⟨Nat.le_refl n, Nat.lt_add_of_pos_right hz⟩))
  · rcases mem_iins.1 hx with rfl | hx
    · exact .inr ⟨Nat.le_refl _, by show nm < nm + sz; omega⟩
    · exact .inl (H.n x (hih x hx))
  · rcases mem_iins.1 hx with rfl | hx
    · exact fun c hm => (hc c hm).mono plus_l
    · exact fun c hm => (H.h x (hih x hx) c hm).mono plus_l
theorem os_sup (nm off n sz : Nat) : SupV (fun m => m = nm) (.os nm off n sz) := fun ρ ρ' e => by simp [IV.den, e nm rfl]
theorem DS.new {ρ : Nat → Nat} {I : Nat → Prop} {nm sz b : Nat} {S : IS} {T : Nat → SV} {h : Heap} {cs : List IV} {k : Blk} (H : DS ρ S T h) (hs : SupS I S) (hI : ¬ I nm) (hc : ∀ c ∈ cs, SupV I c) (hf : fresh h b)
    (hk : IsB ρ k cs) (d : Option Tmp) {v : IV} {x : SV} (hv : x = v.den (upn ρ nm b)) : DS (upn ρ nm b) ((⟨S.t, iins S.h nm cs⟩ : IS).put d v) (putF T d x) ((b, k) :: h) := by
  subst hv
  refine DS.put ⟨fun i => ?_, H.hd.new hs.n hs.h hI hc hf hk⟩ d v
  rw [H.t i]
  exact hs.t i _ _ fun n hn => (upn_other (fun e => hI (by rw [← e]; exact hn))).symm
theorem stepI_ok {call : CallI} {sz nm : Nat} (hcall : CallOK P call sz) (hz : 0 < sz) {o : Oper} {S S' : IS} (hs : stepI P call N nm o S = some S') {I : Nat → Prop} (hI : Out I nm sz) (H : SupS I S) : StepOK P N o nm sz I S S' := by
  have hnm : ¬ I nm := hI nm (Nat.le_refl _) (by omega)
  unfold stepI at hs
  cases hd : dOk N o.dst with
  | false => rw [hd] at hs; cases hs
  | true =>
    rw [hd] at hs
    simp only [cond_true] at hs
    have hd' := dOk_ok hd
    have hval := fun ρ T h (D : DS ρ S T h) => valI_ok (P := P) (op := o.op) (ε := S.ev) (e := evF T) D.ev D.hd
    have hsup := valI_sup (P := P) (op := o.op) H
    generalize hR : valI P o.op S.ev S.h = R at hs hval hsup
    cases R with
    | ok v =>
      cases hs
      simp only at hsup
      refine ⟨(H.put o.dst hsup).mono plus_l, fun ρ S0 D K hK => ?_, fun _ => ⟨hd', v, rfl, fun ρ T h D => hval ρ T h D⟩⟩
      obtain ⟨pre, h1, h2⟩ := hval ρ _ _ D
      refine stepE_of ⟨hd', ?_⟩
      rw [ev_look, h1]
      exact ⟨h2, TK_put (hK ρ _ _ (.refl _ _ _) (D.put o.dst v))⟩
    | new cs mk =>
      cases hst2 : (stX o.op || (mapOf cs).isSome) with
      | true => simp only [hst2] at hs; cases hs
      | false =>
        simp only [hst2, cond_false] at hs
        cases hs
        rw [Bool.or_eq_false_iff, Option.isSome_eq_false_iff, Option.isNone_iff_eq_none] at hst2
        obtain ⟨hst, hmn⟩ := hst2
        simp only at hsup
        refine ⟨new_sup hz H hsup.1 (hsup.2 nm) (fun x hx => hx), fun ρ S0 D K hK => ?_, fun e => by rw [hst] at e; cases e⟩
        obtain ⟨pre, k, f, h1, h2, h3, h4⟩ := hval ρ _ _ D
        refine stepE_of ⟨hd', ?_⟩
        rw [ev_look, h1]
        refine ⟨h2, fun b hb => TK_put (hK (upn ρ nm b) _ _ (upn_agr hz) (D.new (sz := sz) H hnm hsup.1 hb (.of hmn h3) o.dst ?_))⟩
        rw [← h4 (upn ρ nm b) nm, upn_same]
    | bad =>
      simp only at hs
      unfold effI at hs
      have hbad : ∀ S0 : St, valOp P o.op S0.ev S0.h = .bad → ∀ K : St → Prop, effK P o.op o.dst K S0 → stepK P N o K S0 := fun S0 hb K he => ⟨hd', by rw [hb]; exact he⟩
      split at hs
      · rename_i t a v hop
        split at hs
        · rename_i g n b off cs hT ha hc
          split at hs
          · rename_i k hk
            cases hb : (Nat.beq cs.length n && Nat.ble (off + n) k.length) with
            | false => rw [hb] at hs; cases hs
            | true =>
              rw [hb] at hs
              cases hs
              rw [Bool.and_eq_true, Nat.beq_eq, Nat.ble_eq] at hb
              have hcs : ∀ c ∈ cs, SupV I c := by
                have hv := H.ev v
                revert hv hc
                generalize S.ev v = vv
                intro hc hv c hm
                have one : ∀ w : IV, SupV I w → (bif isingle w then some [w] else none) = some cs → SupV I c := fun w hw h => by
                  cases hs : isingle w with
                  | false => rw [hs] at h; cases h
                  | true => rw [hs] at h; cases h; rw [List.mem_singleton.1 hm]; exact hw
                cases vv with
                | agg l =>
                  simp only [icells] at hc
                  cases hs : l.all isingle with
                  | false => rw [hs] at hc; cases hc
                  | true =>
                    rw [hs] at hc
                    cases hc
                    intro ρ ρ' e
                    have := hv ρ ρ' e
                    simp only [IV.den, IV.denL_map, SV.agg.injEq] at this
                    obtain ⟨i, hi, rfl⟩ := List.mem_iff_getElem.1 hm
                    have := congrArg (fun l => l.getD i .any) this
                    simp only [den_getD] at this
                    rw [getD_list _ _ _ hi] at this
                    exact this
                | sc x => exact one (.sc x) hv hc
                | any => exact one .any hv hc
                | tup l => exact one (.tup l) hv hc
                | os b o l s => exact one (.os b o l s) hv hc
                | op b o => exact one (.op b o) hv hc
                | fn g a c' => exact one (.fn g a c') hv hc
                | mp b => exact one (.mp b) hv hc
                | mpv l => exact one (.mpv l) hv hc
                | gv g => cases hc
              have hset : ∀ (l : List IV) (k : List IV) (off : Nat), (∀ c ∈ l, SupV I c) → (∀ c ∈ k, SupV I c) → ∀ c ∈ isetAll k off l, SupV I c := by
                intro l
                induction l with
                | nil => exact fun k off _ h2 => h2
                | cons x r ih => exact fun k off h1 h2 => ih _ _ (fun c hm => h1 c (List.mem_cons_of_mem _ hm)) (fun c hm => by
                    rcases List.mem_or_eq_of_mem_set hm with hm | rfl
                    · exact h2 c hm
                    · exact h1 _ List.mem_cons_self)
              refine ⟨SupS.mono plus_l (SupS.put (S := ⟨S.t, iupd S.h b (isetAll k off cs)⟩) ⟨H.t, fun x hx => ?_, fun x hx => ?_⟩ _ (.any _)), fun ρ S0 D K hK => ?_, fun e => by rw [hop] at e; cases e⟩
              · rcases mem_iupd hx with rfl | hx
                · exact H.n (b, k) (ifind_mem (ifindC_raw hk).1)
                · exact H.n x hx
              · rcases mem_iupd hx with rfl | hx
                · exact hset _ _ _ hcs (H.h (b, k) (ifind_mem (ifindC_raw hk).1))
                · exact H.h x hx
              · refine stepE_of (hbad S0 (by rw [hop]; rfl) _ ?_)
                rw [hop]
                obtain ⟨kk, hf, hcc⟩ := D.hd.get hk
                simp only [effK, ev_look, D.ev, ha, IV.den, icells_den hc, hT, storeK, hf]
                refine ⟨by simpa using hb.1, by rw [Blk.lenI hcc]; exact hb.2, TK_put (hK ρ _ _ (.refl _ _ _) ?_)⟩
                refine DS.put (S := ⟨S.t, iupd S.h b (isetAll k off cs)⟩) ⟨D.t, D.hd.upd (ifindC_raw hk).1 hf ?_⟩ o.dst .any
                refine .of (mapOf_isetAll _ _ _ (ifindC_raw hk).2 (icells_all hc)) ?_
                rw [setN_cells, hcc, setAll_den]
          · cases hs
        · cases hs
      · rename_i f args ts hop
        split at hs
        · rename_i g first captured hfv
          split at hs
          · rename_i r h' hc
            cases hs
            have hfs := H.ev f
            rw [hfv] at hfs
            have sub : (∀ c ∈ first, SupV I c) ∧ ∀ c ∈ captured, SupV I c := by
              refine ⟨fun c hm ρ ρ' e => ?_, fun c hm ρ ρ' e => ?_⟩
              all_goals
                have := hfs ρ ρ' e
                simp only [IV.den, IV.denL_map, SV.fn.injEq] at this
                obtain ⟨i, hi, rfl⟩ := List.mem_iff_getElem.1 hm
              · have := congrArg (fun l => l.getD i .any) this.2.1
                simp only [den_getD] at this
                rw [getD_list _ _ _ hi] at this
                exact this
              · have := congrArg (fun l => l.getD i .any) this.2.2
                simp only [den_getD] at this
                rw [getD_list _ _ _ hi] at this
                exact this
            obtain ⟨c1, c2, c3⟩ := hcall _ _ _ _ _ _ hc I hI (fun v hv => by
              rcases List.mem_append.1 hv with hv | hv
              · rcases List.mem_append.1 hv with hv | hv
                · exact sub.1 v hv
                · obtain ⟨x, _, rfl⟩ := List.mem_map.1 hv; exact H.ev x
              · exact sub.2 v hv) (supS_nil_t H)
            refine ⟨SupS.put (S := ⟨S.t, h'⟩) ⟨fun i => (H.t i).mono plus_l, c2.n, c2.h⟩ _ c1, fun ρ S0 D K hK => ?_, fun e => by rw [hop] at e; cases e⟩
            refine stepE_of (hbad S0 (by rw [hop]; rfl) _ ?_)
            rw [hop]
            have hargs : args.toList.map (fun x => IV.den ρ (S.ev x)) = (args.toList.map S.ev).map (IV.den ρ) := by rw [List.map_map]; rfl
            have hev : S0.ev = fun x => IV.den ρ (S.ev x) := by rw [ev_look]; exact funext D.ev
            simp only [effK, hev, hfv, IV.den, IV.denL_map, callK, hargs, ← List.map_append]
            refine (c3 ρ S0.h D.hd).mono fun R H' ⟨ρ', a1, a2, a3⟩ => TK_put (hK ρ' _ _ a1 ?_)
            subst a2
            refine DS.put (S := ⟨S.t, h'⟩) ⟨fun i => ?_, a3⟩ o.dst r
            rw [D.t i]
            exact H.t i _ _ (a1.on hI)
          · cases hs
        · cases hs
      · rename_i s x st xt hop
        have hbad' : ∀ S0 : St, valOp P o.op S0.ev S0.h = .bad := fun S0 => by rw [hop]; rfl
        cases hN : notInt P xt with
        | true =>
          rw [hN] at hs
          simp only [cond_true] at hs
          have H1 : SupS I ⟨S.t, cutI (S.ev s) S.h⟩ := cutI_sup H
          have D1 := fun ρ (S0 : St) (Dd : DS ρ S (look S0.t) S0.h) => cutI_ok (s := S.ev s) Dd
          have V1 : ∀ y, (⟨S.t, cutI (S.ev s) S.h⟩ : IS).ev y = S.ev y := fun y => by cases y <;> rfl
          have key : ∀ (S1 : IS), S1.t = S.t → SupS I S1 → appI nm (slk P st) (elemZ P st) (S1.ev s) (S1.ev x) o.dst S1 = some S' → SupS (Plus I nm sz) S' ∧
              ∀ ρ (S0 : St), DS ρ S1 (look S0.t) S0.h → ∀ K : (Nat → SV) → Heap → Prop, (∀ ρ' T' h', Agr nm sz ρ ρ' → DS ρ' S' T' h' → K T' h') → stepK P N o (TK K) S0 := ?_
          · obtain ⟨k1, k2⟩ := key ⟨S.t, cutI (S.ev s) S.h⟩ rfl H1 (by rw [V1, V1]; exact hs)
            refine ⟨k1, fun ρ S0 Dd K hK => ?_, fun e => by rw [hop] at e; cases e⟩
            obtain ⟨h', a1, a2⟩ := D1 ρ S0 Dd
            exact ⟨h', a1, k2 ρ ⟨S0.t, h'⟩ a2 K hK⟩
          clear hs H1 D1 V1 hsup hval hR H
          intro S1 hSt H hs
          clear hSt
          revert hs H
          generalize S1 = S
          intro H hs
          unfold appI at hs
          split at hs
          · rename_i e size bytes z hL hZ
            split at hs
            · rename_i n cs hsrc
              cases hb : (cs.all isingle && Nat.beq z.length size && Nat.blt 0 size) with
              | false => rw [hb] at hs; cases hs
              | true =>
                rw [hb] at hs
                simp only [cond_true] at hs
                simp only [Bool.and_eq_true, Nat.beq_eq, Nat.blt_eq] at hb
                have hcs := srcI_sup hsrc H
                have pre : ∀ ρ (S0 : St), DS ρ S (look S0.t) S0.h → ∀ K : St → Prop, (match S0.ev s with
                    | .sc (.slice none 0 0) => appNilK n bytes size (cs.map (IV.den ρ)) o.dst K S0
                    | .os b off len sz => appOsK n bytes size b off len sz (cs.map (IV.den ρ)) o.dst K S0
                    | .nt => appNtK e n bytes size (cs.map (IV.den ρ)) o.dst K S0
                    | .ot b len e' => appOtK e n bytes size b len e' (cs.map (IV.den ρ)) o.dst K S0
                    | _ => False) → stepK P N o K S0 := fun ρ S0 D K hh => by
                  refine hbad S0 (hbad' S0) _ ?_
                  rw [hop]
                  obtain ⟨s1, s2⟩ := srcI_ok hsrc D.hd
                  have ex : S0.ev x = (S.ev x).den ρ := by rw [ev_look]; exact D.ev x
                  simp only [effK, hN, cond_true]
                  refine appX_of ?_
                  simp only [appK, hL, hZ, ex, s1]
                  exact ⟨trivial, s2, all_single_den _ _ hb.1.1, hb.1.2, hb.2, hh⟩
                have es : ∀ ρ (S0 : St), DS ρ S (look S0.t) S0.h → S0.ev s = (S.ev s).den ρ := fun ρ S0 D => by rw [ev_look]; exact D.ev s
                split at hs
                · rename_i hsv
                  cases hb2 : (Nat.ble (n * bytes) 140737488355328 && Nat.ble n 140737488355328) with
                  | false => rw [hb2] at hs; cases hs
                  | true =>
                    rw [hb2] at hs
                    simp only [cond_true] at hs
                    simp only [Bool.and_eq_true, Nat.ble_eq] at hb2
                    split at hs
                    · cases hs
                      refine ⟨(H.put o.dst (.sc _ _)).mono plus_l, fun ρ S0 D K hK => pre ρ S0 D _ ?_⟩
                      rw [es ρ S0 D, hsv]
                      exact ⟨hb2.1, hb2.2, fun _ => TK_put (hK ρ _ _ (.refl _ _ _) (D.put o.dst (.sc (.slice none 0 0)))), fun h0 => absurd h0 (by omega)⟩
                    · rename_i m
                      cases hs
                      refine ⟨new_sup hz H hcs (os_sup _ _ _ _) (fun x hx => hx), fun ρ S0 D K hK => pre ρ S0 D _ ?_⟩
                      rw [es ρ S0 D, hsv]
                      refine ⟨hb2.1, hb2.2, fun h0 => absurd h0 (by omega), fun _ b hfr => TK_put (hK (upn ρ nm b) _ _ (upn_agr hz) (D.new (sz := sz) H hnm hcs hfr (.of (mapOf_single hb.1.1) (by rw [newB_cells])) o.dst ?_))⟩
                      simp only [IV.den, upn_same]
                · rename_i b off len sz' hsv
                  split at hs
                  · rename_i k hk
                    cases hb2 : (Nat.beq off 0 && Nat.beq sz' size && Nat.beq (len * sz') k.length && Nat.ble ((len + n) * bytes) 140737488355328 && Nat.ble (len + n) 140737488355328) with
                    | false => rw [hb2] at hs; cases hs
                    | true =>
                      rw [hb2] at hs
                      cases hs
                      simp only [Bool.and_eq_true, Nat.beq_eq, Nat.ble_eq] at hb2
                      have hkc : ∀ c ∈ k ++ cs, SupV I c := fun c hm => (List.mem_append.1 hm).elim (H.h _ (ifind_mem (ifindC_raw hk).1) c) (hcs c)
                      refine ⟨new_sup hz H hkc (os_sup _ _ _ _) (fun x hx => (mem_idel.1 hx).1), fun ρ S0 D K hK => pre ρ S0 D _ ?_⟩
                      rw [es ρ S0 D, hsv]
                      obtain ⟨kk, hf, hcc⟩ := D.hd.get hk
                      simp only [IV.den, appOsK, hf]
                      refine ⟨hb2.1.1.1.1, hb2.1.1.1.2, by rw [Blk.lenI hcc]; exact hb2.1.1.2, hb2.1.2, hb2.2, fun b' hfr => TK_put (hK (upn ρ nm b') _ _ (upn_agr hz) ?_)⟩
                      have Hd := D.hd.del (ifindC_raw hk).1
                      have Hn := Hd.new (I := I) (nm := nm) (b := b') (k := appB kk (cs.map (IV.den ρ))) (cs := k ++ cs) (fun x hx => H.n x (mem_idel.1 hx).1) (fun x hx => H.h x (mem_idel.1 hx).1) hnm hkc hfr
                        (.of (mapOf_append (ifindC_raw hk).2 hb.1.1) (by rw [appB_cells, hcc, List.map_append]))
                      have Hr : HD (upn ρ nm b') (iins (idel S.h b) nm (k ++ cs)) (S0.h.ren (ρ b) b' (appB kk (cs.map (IV.den ρ)))) := Hn.perm (by
                        by_cases hbb : b' = ρ b
                        · subst hbb
                          unfold Nd
                          rw [ren_self, map_upd]
                          exact D.hd.nd
                        · refine nodup_ren D.hd.nd (fun hm => ?_)
                          obtain ⟨k', hk'⟩ := has_map.2 hm
                          refine not_has_of_fresh hfr ⟨k', ?_⟩
                          have := find_of_mem D.hd.nd hk'
                          rw [← find_del D.hd.nd hbb] at this
                          exact Heap.find_mem this) (mem_ren_iff D.hd.nd hf)
                      have e : ∀ n, I n → ρ n = upn ρ nm b' n := fun n hn => (upn_other (fun e => hnm (by rw [← e]; exact hn))).symm
                      have := DS.put (S := ⟨S.t, iins (idel S.h b) nm (k ++ cs)⟩) (T := look S0.t) ⟨fun i => by rw [D.t i]; exact H.t i _ _ e, Hr⟩ o.dst (.os nm 0 (len + n) sz')
                      simp only [IV.den, upn_same] at this
                      exact this
                  · cases hs
                · cases hs
            · cases hs
          · cases hs
        | false =>
          rw [hN] at hs
          simp only [cond_false] at hs
          cases hI2 : (ik P xt).isSome with
          | false => rw [hI2] at hs; cases hs
          | true =>
            rw [hI2] at hs
            simp only [cond_true] at hs
            unfold appZI at hs
            split at hs
            · rename_i e size bytes z n hL hZ hsv hxv
              cases hb : (Nat.beq z.length size && Nat.blt 0 size && Nat.blt 0 n && Nat.ble (n * bytes) 140737488355328 && Nat.ble n 140737488355328) with
              | false => rw [hb] at hs; cases hs
              | true =>
                rw [hb] at hs
                cases hs
                simp only [Bool.and_eq_true, Nat.beq_eq, Nat.blt_eq, Nat.ble_eq] at hb
                have hcs : ∀ c ∈ izfill z n, SupV I c := by
                  intro c hm
                  have : ∀ n, c ∈ izfill z n → SupV I c := by
                    intro n
                    induction n with
                    | zero => intro h; cases h
                    | succ n ih =>
                      intro h
                      rcases List.mem_append.1 h with h | h
                      · obtain ⟨x, _, rfl⟩ := List.mem_map.1 h; exact .sc _ _
                      · exact ih h
                  exact this n hm
                refine ⟨new_sup hz H hcs (os_sup _ _ _ _) (fun x hx => hx), fun ρ S0 D K hK => stepE_of (hbad S0 (hbad' S0) _ ?_), fun e => by rw [hop] at e; cases e⟩
                rw [hop]
                have ex : S0.ev x = (S.ev x).den ρ := by rw [ev_look]; exact D.ev x
                have es : S0.ev s = (S.ev s).den ρ := by rw [ev_look]; exact D.ev s
                simp only [effK, hN, cond_false, hI2, cond_true, appZK, hL, hZ, ex, es, hsv, hxv, IV.den]
                have h5 : ((n * bytes : Nat) : Int) ≤ 140737488355328 := by have := hb.1.2; omega
                rw [Int.natCast_mul] at h5
                have h6 : n ≤ 140737488355328 := hb.2
                have h7 : 0 < n := hb.1.1.2
                refine ⟨hb.1.1.1.1, hb.1.1.1.2, Int.natCast_pos.2 h7, h5, by show (n : Int) ≤ _; omega, fun b hfr => TK_put (hK (upn ρ nm b) _ _ (upn_agr hz) (D.new (sz := sz) H hnm hcs hfr (.of (mapOf_izfill _ _) (by rw [zeros_cells, izfill_den]; rfl)) o.dst ?_))⟩
                simp only [IV.den, upn_same]
                rfl
            · cases hs
      · rename_i t r hop
        cases hb : (isMp P t && hintI (r.map S.ev)) with
        | false => rw [hb] at hs; cases hs
        | true =>
          rw [hb] at hs
          cases hs
          rw [Bool.and_eq_true] at hb
          have hc : ∀ c ∈ [IV.mpv []], SupV I c := fun c hm => by rw [List.mem_singleton.1 hm]; exact fun _ _ _ => rfl
          refine ⟨new_sup hz H hc (fun ρ ρ' e => by simp only [IV.den]; rw [e nm rfl]) (fun x hx => hx), fun ρ S0 D K hK => stepE_of (hbad S0 (by rw [hop]; rfl) _ ?_), fun e => by rw [hop] at e; cases e⟩
          rw [hop]
          have eh : hintOk (r.map S0.ev) = true := by
            have e2 := hb.2
            cases r with
            | none => rfl
            | some y =>
              simp only [Option.map_some] at e2 ⊢
              rw [ev_look, D.ev y]
              revert e2
              generalize S.ev y = v
              intro e2
              cases v with
              | sc v => cases v <;> first | rfl | cases e2
              | _ => cases e2
          exact ⟨hb.1, eh, fun b hfr => TK_put (hK (upn ρ nm b) _ _ (upn_agr hz) (D.new (sz := sz) H hnm hc hfr (.mk []) o.dst (by simp only [IV.den, upn_same])))⟩
      · rename_i t m k x hop
        unfold mputI at hs
        split at hs
        · rename_i c z b a v hT hm hk hx
          split at hs
          · rename_i cs hf
            split at hs
            · rename_i l hl
              cases hkk : kkOk c a with
              | false => rw [hkk] at hs; cases hs
              | true =>
                rw [hkk] at hs
                simp only [cond_true] at hs
                split at hs
                · rename_i r hr
                  cases hs
                  refine ⟨SupS.put (S := ⟨S.t, iupd S.h b [.mpv (mset a v l r)]⟩) ⟨fun i => (H.t i).mono plus_l, fun y hy => ?_, fun y hy => ?_⟩ o.dst (.any _), fun ρ S0 D K hK => stepE_of (hbad S0 (by rw [hop]; rfl) _ ?_), fun e => by rw [hop] at e; cases e⟩
                  · rcases mem_iupd hy with rfl | hy
                    · exact .inl (H.n (b, cs) (ifind_mem hf))
                    · exact .inl (H.n y hy)
                  · rcases mem_iupd hy with rfl | hy
                    · exact fun c hm => by rw [List.mem_singleton.1 hm]; exact fun _ _ _ => rfl
                    · exact fun c hm => (H.h y hy c hm).mono plus_l
                  · rw [hop]
                    have hg := D.hd.getM hf hl
                    simp only [effK, ev_look, D.ev, hm, hk, hx, IV.den, hT, mputK, hg]
                    refine ⟨hkk, ?_⟩
                    rw [hr]
                    exact TK_put (hK ρ _ _ (.refl _ _ _) (DS.put (S := ⟨S.t, iupd S.h b [.mpv (mset a v l r)]⟩) ⟨D.t, D.hd.upd hf hg (.mk _)⟩ o.dst .any))
                · cases hs
            · cases hs
          · cases hs
        · cases hs
      · rename_i t m k x hop
        unfold mputI at hs
        split at hs
        · rename_i c z b a v hT hm hk hx
          split at hs
          · rename_i cs hf
            split at hs
            · rename_i l hl
              cases hkk : kkOk c a with
              | false => rw [hkk] at hs; cases hs
              | true =>
                rw [hkk] at hs
                simp only [cond_true] at hs
                split at hs
                · rename_i r hr
                  cases hs
                  refine ⟨SupS.put (S := ⟨S.t, iupd S.h b [.mpv (mset a v l r)]⟩) ⟨fun i => (H.t i).mono plus_l, fun y hy => ?_, fun y hy => ?_⟩ o.dst (.any _), fun ρ S0 D K hK => stepE_of (hbad S0 (by rw [hop]; rfl) _ ?_), fun e => by rw [hop] at e; cases e⟩
                  · rcases mem_iupd hy with rfl | hy
                    · exact .inl (H.n (b, cs) (ifind_mem hf))
                    · exact .inl (H.n y hy)
                  · rcases mem_iupd hy with rfl | hy
                    · exact fun c hm => by rw [List.mem_singleton.1 hm]; exact fun _ _ _ => rfl
                    · exact fun c hm => (H.h y hy c hm).mono plus_l
                  · rw [hop]
                    have hg := D.hd.getM hf hl
                    simp only [effK, ev_look, D.ev, hm, hk, hx, IV.den, hT, mputK, hg]
                    refine ⟨hkk, ?_⟩
                    rw [hr]
                    exact TK_put (hK ρ _ _ (.refl _ _ _) (DS.put (S := ⟨S.t, iupd S.h b [.mpv (mset a v l r)]⟩) ⟨D.t, D.hd.upd hf hg (.mk _)⟩ o.dst .any))
                · cases hs
            · cases hs
          · cases hs
        · cases hs
      · cases hs
end
end Go.Ab
/-! Ay: Regions of the reading: in the order of the text; in every order. -/
namespace Go.Ab
open Go.RowKit
variable [Gl]
noncomputable def skipI (N : Nat) (d : Option Tmp) (S : IS) : Option IS := bif dOk N d then some (S.put d (.sc undef)) else none
noncomputable def gI (P : Program) (call : CallI) (N : Nat) (ops : List Oper) (nm : Nat) (o : Oper) (S : IS) : Option IS :=
  match o.guard with
  | none => stepI P call N nm o S
  | some (j, want) => match gdst ops j with
    | none => none
    | some t => match S.get t with
      | .sc (.bool b) => bif b == want then stepI P call N nm o S else skipI N o.dst S
      | .sc (.tuple _) => skipI N o.dst S
      | _ => none
section
variable {P : Program} {N : Nat} {M : Nat → Prop} {w0 : World} {D : Nat → Prop} {w : World}
def YX (P : Program) (N : Nat) (ops : List Oper) (o : Oper) (T : Nat → SV) (h : Heap) (v : SV) : Prop :=
  dstOk N o.dst ∧ ((Wtd ops o.guard T true ∧ ∃ pre, valOp P o.op (evF T) h = .ok pre v ∧ pre) ∨ (Wtd ops o.guard T false ∧ v = .sc undef))
structure GOK (P : Program) (N : Nat) (ops : List Oper) (o : Oper) (nm sz : Nat) (I : Nat → Prop) (S S' : IS) : Prop where
  sup : SupS (Plus I nm sz) S'
  run : ∀ ρ (S0 : St), DS ρ S (look S0.t) S0.h → ∀ K : (Nat → SV) → Heap → Prop, (∀ ρ' T' h', Agr nm sz ρ ρ' → DS ρ' S' T' h' → K T' h') → gstep ops N o.guard o.dst (stepE P N o (TK K)) (TK K) S0
  st : stX o.op = true → ∃ v, S' = S.put o.dst v ∧ ∀ ρ T h, DS ρ S T h → YX P N ops o T h (v.den ρ)
theorem DS.same {ρ : Nat → Nat} {S : IS} {S0 : St} {t : Tmp} {v : SV} (Dd : DS ρ S (look S0.t) S0.h) (hv : look S0.t t = v) : DS ρ S (look (S0.put (some t) v).t) (S0.put (some t) v).h := by
  have : look (S0.put (some t) v).t = look S0.t := by
    rw [look_put]
    funext i
    rw [putF_if]
    split
    · rename_i e; cases e; exact hv.symm
    · rfl
  rw [this]
  exact Dd
theorem gI_ok {call : CallI} {sz nm : Nat} (hcall : CallOK P call sz) (hz : 0 < sz) {ops : List Oper} {o : Oper} {S S' : IS} (hs : gI P call N ops nm o S = some S') {I : Nat → Prop} (hI : Out I nm sz) (H : SupS I S) : GOK P N ops o nm sz I S S' := by
  unfold gI at hs
  split at hs
  · rename_i hg
    have h := stepI_ok hcall hz hs hI H
    refine ⟨h.sup, fun ρ S0 Dd K hK => ?_, fun st => ?_⟩
    · rw [hg]; exact h.run ρ S0 Dd K hK
    · obtain ⟨hd, v, e, hv⟩ := h.st st
      exact ⟨v, e, fun ρ T h Dd => ⟨hd, .inl ⟨by rw [hg]; rfl, hv ρ T h Dd⟩⟩⟩
  · rename_i j want hg
    split at hs
    · cases hs
    · rename_i t ht
      have skp : skipI N o.dst S = some S' → (∀ ρ T h, DS ρ S T h → Wtd ops o.guard T false) → (∀ ρ (S0 : St), DS ρ S (look S0.t) S0.h → ∀ A K : St → Prop, (∀ S1 : St, DS ρ S (look S1.t) S1.h → dstOk N o.dst → K (S1.put o.dst (.sc undef))) → gstep ops N o.guard o.dst A K S0) →
          GOK P N ops o nm sz I S S' := fun hs hw hgo => by
        unfold skipI at hs
        cases hd : dOk N o.dst with
        | false => rw [hd] at hs; cases hs
        | true =>
          rw [hd] at hs
          cases hs
          refine ⟨(H.put _ (.sc _ _)).mono plus_l, fun ρ S0 Dd K hK => hgo ρ S0 Dd _ _ fun S1 D1 _ => ?_, fun st => ⟨_, rfl, fun ρ T h Dd => ⟨dOk_ok hd, .inr ⟨hw ρ T h Dd, rfl⟩⟩⟩⟩
          exact TK_put (hK ρ _ _ (.refl _ _ _) (D1.put o.dst (.sc undef)))
      split at hs
      · rename_i b hb
        have hT : ∀ ρ T h, DS ρ S T h → T t = .sc (.bool b) := fun ρ T h Dd => by rw [Dd.t t, hb]; rfl
        have hW : ∀ ρ T h, DS ρ S T h → Wtd ops o.guard T (b == want) := fun ρ T h Dd => by rw [hg]; exact ⟨t, ht, .inl ⟨b, hT ρ T h Dd, rfl⟩⟩
        cases hbw : b == want with
        | true =>
          rw [hbw] at hs
          have h := stepI_ok hcall hz hs hI H
          refine ⟨h.sup, fun ρ S0 Dd K hK => ?_, fun st => ?_⟩
          · rw [hg]
            simp only [gstep, ht, guardK_some, hT ρ _ _ Dd]
            have D1 := Dd.same (hT ρ _ _ Dd)
            have := h.run ρ _ D1 K hK
            rw [beq_iff_eq] at hbw
            subst hbw
            unfold guardB
            cases b
            · simpa using this
            · simpa using this
          · obtain ⟨hd, v, e, hv⟩ := h.st st
            exact ⟨v, e, fun ρ T h Dd => ⟨hd, .inl ⟨by have := hW ρ T h Dd; rwa [hbw] at this, hv ρ T h Dd⟩⟩⟩
        | false =>
          rw [hbw] at hs
          refine skp hs (fun ρ T h Dd => by have := hW ρ T h Dd; rwa [hbw] at this) (fun ρ S0 Dd A K hK => ?_)
          rw [hg]
          have hd : dstOk N o.dst := by
            unfold skipI at hs
            cases hd : dOk N o.dst with
            | false => rw [hd] at hs; cases hs
            | true => exact dOk_ok hd
          simp only [gstep, ht, guardK_some, hT ρ _ _ Dd]
          have D1 := Dd.same (hT ρ _ _ Dd)
          have := hK _ D1 hd
          unfold guardB
          cases b
          · cases want
            · cases hbw
            · simpa using ⟨hd, this⟩
          · cases want
            · simpa using ⟨hd, this⟩
            · cases hbw
      · rename_i c hb
        have hT : ∀ ρ T h, DS ρ S T h → T t = .sc (.tuple c) := fun ρ T h Dd => by rw [Dd.t t, hb]; rfl
        refine skp hs (fun ρ T h Dd => by rw [hg]; exact ⟨t, ht, .inr ⟨c, hT ρ T h Dd, rfl⟩⟩) (fun ρ S0 Dd A K hK => ?_)
        rw [hg]
        have hd : dstOk N o.dst := by
          unfold skipI at hs
          cases hd : dOk N o.dst with
          | false => rw [hd] at hs; cases hs
          | true => exact dOk_ok hd
        simp only [gstep, ht, guardK_some, hT ρ _ _ Dd]
        exact ⟨hd, hK _ Dd hd⟩
      · cases hs
/-! ### in the order of the text -/
def vcE (P : Program) (N : Nat) (ops : List Oper) (l : List Oper) (K : St → Prop) (S : St) : Prop := match l with
  | [] => K S
  | o :: r => gstep ops N o.guard o.dst (stepE P N o (vcE P N ops r K)) (vcE P N ops r K) S
theorem vcE_mono {ops : List Oper} : ∀ (l : List Oper) (S0 : St) (K K' : St → Prop), (∀ S, K S → K' S) → vcE P N ops l K S0 → vcE P N ops l K' S0
  | [], _, _, _, hk, h => hk _ h
  | o :: r, S0, K, K', hk, h => gstep_mono (fun S1 h1 => stepE_mono (fun S2 h2 => vcE_mono r S2 K K' hk h2) h1) (fun S2 h2 => vcE_mono r S2 K K' hk h2) h
theorem vcE_sound {ops : List Oper} {Q : Exit → Act → World → Prop} {K : St → Prop} (hK : ∀ S a w, K S → Rel M w0 D N S a w → Q .normal a w) :
    ∀ (l : List Oper) (S : St) (a : Act) (w : World), vcE P N ops l K S → Rel M w0 D N S a w → wpList P ops.toArray Q l a w
  | [], S, a, w, h, hr => wpList_nil (hK S a w h hr)
  | o :: r, S, a, w, h, hr => by
    obtain ⟨S', hr', h'⟩ := gstep_sound (ops := ops) hr h
    refine wpList_step fun K' hK' => ?_
    rcases h' with ⟨hw, hA⟩ | ⟨hw, hd, hB⟩
    · rw [if_pos hw]
      exact Oper.wp_mono (fun a' w' ⟨S'', h1, h2⟩ => hK' a' w' (vcE_sound hK r S'' a' w' h1 h2)) (stepE_sound hr' hA)
    · rw [if_neg (by rw [hw]; simp)]
      exact hK' _ _ (vcE_sound hK r _ _ _ hB (hr'.put' hd (.sc _)))
theorem SW.regionE {id : Nat} {l : List Oper} {Q : Exit → St → Prop} {S : St} (h : vcE P N l l (Q .normal) S) : SW P N (.region id l.toArray false) Q S := SW.mk fun M w0 D a w hr => by
  refine wp_region_list ?_
  simpa using vcE_sound (K := Q .normal) (Q := fun e a' w' => ∃ S', Q e S' ∧ Rel M w0 D N S' a' w') (fun S a w h hr => ⟨S, h, hr⟩) l S a w h hr
noncomputable def seqI (P : Program) (call : CallI) (N sz : Nat) (ops : List Oper) : List Oper → Nat → IS → Option IS
  | [], _, S => some S
  | o :: r, nm, S => match gI P call N ops nm o S with
    | some S1 => seqI P call N sz ops r (nm + sz) S1
    | none => none
def seqX (P : Program) (N : Nat) (ops : List Oper) (K : (Nat → SV) → Heap → Prop) : List Oper → (Nat → SV) → Heap → Prop
  | [], T, h => K T h
  | o :: r, T, h => bif stX o.op then ∃ v, YX P N ops o T h v ∧ seqX P N ops K r (putF T o.dst v) h
    else ∃ S : St, look S.t = T ∧ S.h = h ∧ gstep ops N o.guard o.dst (stepE P N o (TK (seqX P N ops K r))) (TK (seqX P N ops K r)) S
theorem DS.st {ρ : Nat → Nat} {S : IS} {T : Nat → SV} {h : Heap} (H : DS ρ S T h) : ∃ S0 : St, look S0.t = T ∧ S0.h = h := by
  obtain ⟨n, hn⟩ := TT.bound S.t
  refine ⟨⟨argT 0 ((List.range n).map fun i => (S.get i).den ρ), h⟩, ?_, rfl⟩
  funext i
  rw [look_argT _ 0 i (Nat.zero_le _), Nat.sub_zero, H.t i]
  rcases Nat.lt_or_ge i n with hi | hi
  · simp [List.getD_eq_getElem?_getD, hi]
  · have : S.get i = .any := hn i hi
    rw [this, List.getD_eq_getElem?_getD, List.getElem?_eq_none (by simpa using hi)]
    rfl
theorem out_succ {I : Nat → Prop} {nm sz n : Nat} (h : Out I nm ((n + 1) * sz)) : Out I nm sz := fun m h1 h2 => h m h1 (by rw [Nat.succ_mul]; omega)
theorem out_tail {I : Nat → Prop} {nm sz n : Nat} (h : Out I nm ((n + 1) * sz)) : Out (Plus I nm sz) (nm + sz) (n * sz) := fun m h1 h2 hm => by
  rcases hm with hm | hm
  · exact h m (by omega) (by rw [Nat.succ_mul]; omega) hm
  · omega
theorem plus_plus {I : Nat → Prop} {nm sz n : Nat} : ∀ m, Plus (Plus I nm sz) (nm + sz) (n * sz) m → Plus I nm ((n + 1) * sz) m := fun m h => by
  rcases h with (h | h) | h
  · exact .inl h
  · exact .inr ⟨h.1, by rw [Nat.succ_mul]; omega⟩
  · exact .inr ⟨by omega, by rw [Nat.succ_mul]; omega⟩
theorem agr_cons {nm sz n : Nat} {ρ ρ1 ρ2 : Nat → Nat} (h1 : Agr nm sz ρ ρ1) (h2 : Agr (nm + sz) (n * sz) ρ1 ρ2) : Agr nm ((n + 1) * sz) ρ ρ2 := fun m hm => by
  rw [Nat.succ_mul] at hm
  rw [h2 m (fun x => hm ⟨by omega, by omega⟩), h1 m (fun x => hm ⟨by omega, by omega⟩)]
theorem seqI_ok {call : CallI} {sz : Nat} (hcall : CallOK P call sz) (hz : 0 < sz) {ops : List Oper} : ∀ (l : List Oper) (nm : Nat) (S S' : IS) (I : Nat → Prop), seqI P call N sz ops l nm S = some S' → Out I nm (l.length * sz) → SupS I S →
    SupS (Plus I nm (l.length * sz)) S' ∧ ∀ ρ, (∀ (S0 : St), DS ρ S (look S0.t) S0.h → ∀ K : (Nat → SV) → Heap → Prop, (∀ ρ' T' h', Agr nm (l.length * sz) ρ ρ' → DS ρ' S' T' h' → K T' h') → vcE P N ops l (TK K) S0) ∧
      ∀ T h, DS ρ S T h → ∀ K : (Nat → SV) → Heap → Prop, (∀ ρ' T' h', Agr nm (l.length * sz) ρ ρ' → DS ρ' S' T' h' → K T' h') → seqX P N ops K l T h
  | [], nm, S, S', I, hs, hI, H => by
    cases hs
    exact ⟨H.mono plus_l, fun ρ => ⟨fun S0 Dd K hK => hK ρ _ _ (.refl _ _ _) Dd, fun T h Dd K hK => hK ρ _ _ (.refl _ _ _) Dd⟩⟩
  | o :: r, nm, S, S', I, hs, hI, H => by
    simp only [seqI] at hs
    split at hs
    · rename_i S1 h1
      have g := gI_ok hcall hz h1 (out_succ hI) H
      obtain ⟨s2, r2⟩ := seqI_ok hcall hz r (nm + sz) S1 S' _ hs (out_tail hI) g.sup
      refine ⟨s2.mono plus_plus, fun ρ => ⟨fun S0 Dd K hK => ?_, fun T h Dd K hK => ?_⟩⟩
      · have := g.run ρ S0 Dd (fun T h => ∃ ρ', Agr nm sz ρ ρ' ∧ DS ρ' S1 T h) (fun ρ' T' h' a1 d1 => ⟨ρ', a1, d1⟩)
        refine gstep_mono (fun S2 h2 => stepE_mono (fun S3 h3 => ?_) h2) (fun S3 h3 => ?_) this
        all_goals
          obtain ⟨ρ1, a1, d1⟩ := h3
          exact (r2 ρ1).1 S3 d1 K (fun ρ' T' h' a2 d2 => hK ρ' T' h' (agr_cons a1 a2) d2)
      · simp only [seqX]
        cases hst : stX o.op with
        | true =>
          obtain ⟨v, e, hv⟩ := g.st hst
          subst e
          exact ⟨v.den ρ, hv ρ T h Dd, (r2 ρ).2 _ _ (Dd.put o.dst v) K (fun ρ' T' h' a2 d2 => hK ρ' T' h' (agr_cons (.refl _ _ _) a2) d2)⟩
        | false =>
          obtain ⟨S0, e1, e2⟩ := Dd.st
          subst e1 e2
          exact ⟨S0, rfl, rfl, g.run ρ S0 Dd _ (fun ρ1 T' h' a1 d1 => (r2 ρ1).2 T' h' d1 K (fun ρ' T'' h'' a2 d2 => hK ρ' T'' h'' (agr_cons a1 a2) d2))⟩
    · cases hs
/-! ### in every order -/
def opX (P : Program) (N : Nat) (ops : List Oper) (i : Nat) (K : (Nat → SV) → Heap → Prop) (T : Nat → SV) (h : Heap) : Prop :=
  match ops[i]? with
  | none => K T h
  | some o => bif stX o.op then ∃ v, YX P N ops o T h v ∧ K (putF T o.dst v) h
    else ∃ S : St, look S.t = T ∧ S.h = h ∧ gstep ops N o.guard o.dst (stepE P N o (TK K)) (TK K) S
def anyX (P : Program) (N : Nat) (ops : List Oper) (K : (Nat → SV) → Heap → Prop) : Nat → Array Bool → (Nat → SV) → Heap → Prop
  | 0, listed, T, h => Region.ready .any ops.toArray listed = [] ∧ K T h
  | f + 1, listed, T, h => (Region.ready .any ops.toArray listed = [] → K T h) ∧
    ∀ i ∈ Region.ready .any ops.toArray listed, opX P N ops i (anyX P N ops K f (listed.setIfInBounds i true)) T h
theorem yx_sound {ops : List Oper} {o : Oper} {S : St} {a : Act} {v : SV} {K : Act → World → Prop} {Q : Exit → Act → World → Prop} (hr : Rel M w0 D N S a w) (hd : dstOk N o.dst) {pre : Prop} (hv : valOp P o.op (evF (look S.t)) S.h = .ok pre v) (hp : pre)
    (hK : ∀ a' w', Rel M w0 D N (S.put o.dst v) a' w' → K a' w') : o.wp P a w K Q :=
  yld_sound hr hd (.inl ⟨pre, hv, hp⟩) hK
theorem anyX_sound {ops : List Oper} {Q : Exit → Act → World → Prop} {K : (Nat → SV) → Heap → Prop} (hK : ∀ S a w, K (look S.t) S.h → Rel M w0 D N S a w → Q .normal a w) :
    ∀ (f : Nat) (listed : Array Bool) (S : St) (a : Act) (w : World), Rel M w0 D N S a w → anyX P N ops K f listed (look S.t) S.h → wpAny P .any ops.toArray Q f listed a w
  | 0, listed, S, a, w, hr, h => ⟨h.1, hK S a w h.2 hr⟩
  | f + 1, listed, S, a, w, hr, h => by
    refine ⟨fun h0 => hK S a w (h.1 h0) hr, fun i hi => ?_⟩
    have hop := h.2 i hi
    unfold opX at hop
    unfold wpOp
    simp only [List.getElem?_toArray]
    split
    · rename_i ho
      simp only [ho] at hop
      exact anyX_sound hK f _ S a w hr hop
    · rename_i o ho
      simp only [ho] at hop
      by_cases hs : stX o.op = true
      · rw [hs] at hop
        simp only [cond_true] at hop
        obtain ⟨v, ⟨hd, hy⟩, hn⟩ := hop
        have next : ∀ a' w', Rel M w0 D N (S.put o.dst v) a' w' → wpAny P .any ops.toArray Q f (listed.setIfInBounds i true) a' w' := fun a' w' hr' =>
          anyX_sound hK f _ (S.put o.dst v) a' w' hr' (by rw [look_put, h_put]; exact hn)
        rcases hy with ⟨hw, pre, hy, hp⟩ | ⟨hw, rfl⟩
        · rw [if_pos (yielded_F hr hw)]
          exact .inl (yx_sound (ops := ops) hr hd hy hp next)
        · rw [if_neg (by rw [yielded_F hr hw]; simp)]
          exact next _ _ (hr.put' hd (.sc _))
      · simp only [Bool.not_eq_true] at hs
        rw [hs] at hop
        simp only [cond_false] at hop
        obtain ⟨S1, e1, e2, hg⟩ := hop
        have hr1 := hr.look_eq e1 e2
        obtain ⟨S', hr', h'⟩ := gstep_sound (ops := ops) hr1 hg
        rcases h' with ⟨hw, hA⟩ | ⟨hw, hd, hB⟩
        · rw [if_pos hw]
          exact .inl (Oper.wp_mono (fun a' w' ⟨S'', h1, h2⟩ => anyX_sound hK f _ S'' a' w' h2 h1) (stepE_sound hr' hA))
        · rw [if_neg (by rw [hw]; simp)]
          exact anyX_sound hK f _ _ _ _ (hr'.put' hd (.sc _)) hB
theorem stX_stable {op : Op} (h : stX op = true) : stableOp op = true := by
  unfold stX at h
  rw [Bool.and_eq_true] at h
  exact h.1
theorem YX_putF {ops : List Oper} {o : Oper} (hs : stX o.op = true) {T : Nat → SV} {d : Option Tmp} {v u : SV} {h : Heap} (ha : Away ops o d) : YX P N ops o (putF T d v) h u ↔ YX P N ops o T h u := by
  unfold YX
  rw [Wtd_putF ha, Wtd_putF ha, valOp_congr (stX_stable hs) h (evF_putF ha)]
theorem opX_mono {ops : List Oper} {i : Nat} {o : Oper} {h : Heap} (ho : ops[i]? = some o) (hs : stX o.op = true) {K K' : (Nat → SV) → Heap → Prop} {T : Nat → SV} (hk : ∀ T, K T h → K' T h) (hh : opX P N ops i K T h) : opX P N ops i K' T h := by
  unfold opX at hh ⊢
  simp only [ho, hs, cond_true] at hh ⊢
  obtain ⟨v, hy, hn⟩ := hh
  exact ⟨v, hy, hk _ hn⟩
theorem opX_put {ops : List Oper} {j : Nat} {oi oj : Oper} {v : SV} {h : Heap} (hj : ops[j]? = some oj) (hap : oi.apart ops.toArray oj = true) (hsi : stX oi.op = true) (hsj : stX oj.op = true)
    {K : (Nat → SV) → Heap → Prop} {T : Nat → SV} (hy : YX P N ops oi T h v) (hh : opX P N ops j K (putF T oi.dst v) h) :
    opX P N ops j (fun T' h' => h' = h ∧ YX P N ops oi T' h v ∧ K (putF T' oi.dst v) h) T h := by
  obtain ⟨h1, h2, h3⟩ := Oper.apart_spec hap
  unfold opX at hh ⊢
  simp only [hj, hsj, cond_true] at hh ⊢
  obtain ⟨u, hu, hn⟩ := hh
  exact ⟨u, (YX_putF hsj (fun t ht => h1 t ht)).1 hu, trivial, (YX_putF hsi (fun t ht => h3 t ht)).2 hy, by rw [← putF_comm T v u h2]; exact hn⟩
theorem anyX_first {ops : List Oper} {K : (Nat → SV) → Heap → Prop} {i : Nat} {oi : Oper} {v : SV} {h : Heap} (hi : ops[i]? = some oi) (hsi : stX oi.op = true) :
    ∀ (fuel : Nat) (listed : Array Bool) (T : Nat → SV),
      (∀ j oj, ops[j]? = some oj → j ≠ i → listed.getD j true = false → (∀ e ∈ oj.after, Region.binds .any e = true → e.on ≠ i) → oi.apart ops.toArray oj = true ∧ stX oj.op = true) →
      i ∈ Region.ready .any ops.toArray listed → YX P N ops oi T h v →
      anyX P N ops K fuel (listed.setIfInBounds i true) (putF T oi.dst v) h → anyX P N ops K (fuel + 1) listed T h := by
  have use : ∀ {K' : (Nat → SV) → Heap → Prop} {T : Nat → SV}, YX P N ops oi T h v → K' (putF T oi.dst v) h → opX P N ops i K' T h := fun hy hk => by
    unfold opX; simp only [hi, hsi, cond_true]; exact ⟨v, hy, hk⟩
  intro fuel
  induction fuel with
  | zero =>
    intro listed T _ hr hy H
    refine ⟨fun h => (by rw [h] at hr; cases hr), fun j hj => ?_⟩
    by_cases hji : j = i
    · subst hji; exact use hy H
    · have := ready_mono hj hji
      rw [H.1] at this
      cases this
  | succ fuel ih =>
    intro listed T hfree hr hy H
    refine ⟨fun h => (by rw [h] at hr; cases hr), fun j hj => ?_⟩
    by_cases hji : j = i
    · subst hji; exact use hy H
    · have h1 := H.2 j (ready_mono hj hji)
      obtain ⟨hjun, oj, hoj, hall⟩ := mem_ready.1 hj
      rw [List.getElem?_toArray] at hoj
      have hnot : ∀ e ∈ oj.after, Region.binds .any e = true → e.on ≠ i := fun e he hb heq => by
        have h1 := hall e he hb
        have h0 := (mem_ready.1 hr).1
        rw [heq] at h1
        rcases Nat.lt_or_ge i listed.size with h' | h'
        · simp [h'] at h0 h1; rw [h0] at h1; cases h1
        · simp [Array.getElem?_eq_none h'] at h1
      obtain ⟨hap, hsj⟩ := hfree j oj hoj hji hjun hnot
      have h2 := opX_put hoj hap hsi hsj hy h1
      have hfree' : ∀ k ok, ops[k]? = some ok → k ≠ i → (listed.setIfInBounds j true).getD k true = false →
          (∀ e ∈ ok.after, Region.binds .any e = true → e.on ≠ i) → oi.apart ops.toArray ok = true ∧ stX ok.op = true := fun k ok hk hki hun hno => by
        refine hfree k ok hk hki ?_ hno
        by_cases hjk : j = k
        · subst hjk; exact hjun
        · rw [getD_set_ne true hjk] at hun; exact hun
      refine opX_mono hoj hsj (fun T' ⟨_, h3, h4⟩ => ih (listed.setIfInBounds j true) T' hfree' (ready_mono hr (Ne.symm hji)) h3 ?_) h2
      rw [Array.setIfInBounds_comm _ _ hji]
      exact h4
/-! the same as Region.ready, over lists -/
def aftF (l0 : List Bool) : List Edge → Bool
  | [] => true
  | e :: r => bif !Region.binds .any e || l0.getD e.on false then aftF l0 r else false
def readyF (l0 : List Bool) : List Oper → List Bool → Nat → List Nat
  | o :: r, b :: s, i => bif b then readyF l0 r s (i + 1) else (bif aftF l0 o.after.toList then i :: readyF l0 r s (i + 1) else readyF l0 r s (i + 1))
  | _, _, _ => []
theorem aftF_eq (l0 : List Bool) : ∀ l : List Edge, aftF l0 l = l.all fun e => !Region.binds .any e || l0.getD e.on false
  | [] => rfl
  | e :: r => by
    rw [aftF, List.all_cons, aftF_eq l0 r]
    cases (!Region.binds .any e || l0.getD e.on false) <;> rfl
theorem arr_getD {α : Type} (a : Array α) (i : Nat) (d : α) : a.getD i d = a.toList.getD i d := by
  rw [Array.getD_eq_getD_getElem?, List.getD_eq_getElem?_getD, Array.getElem?_toList]
theorem readyF_eq (ops : List Oper) (l0 : List Bool) : ∀ (r : List Oper) (k : Nat), r = ops.drop k → readyF l0 r (l0.drop k) k = (List.range' k r.length).filter fun i => !l0.getD i true && ((ops[i]?).map fun x => x.after.all fun e => !Region.binds .any e || l0.getD e.on false).getD false
  | [], k, _ => by cases l0.drop k <;> rfl
  | o :: r, k, h => by
    have hk : ops[k]? = some o := by
      have := List.getElem?_drop (xs := ops) (i := k) (j := 0)
      rw [← h] at this
      simpa using this.symm
    have hr : r = ops.drop (k + 1) := by
      rw [← List.drop_drop, ← h]; rfl
    rw [List.length_cons, List.range'_succ, List.filter_cons, hk]
    rcases Nat.lt_or_ge k l0.length with hl | hl
    · have hd : l0.drop k = l0[k] :: l0.drop (k + 1) := List.drop_eq_getElem_cons hl
      have hg : l0.getD k true = l0[k] := by simp [List.getD_eq_getElem?_getD, hl]
      rw [hd, hg, readyF, aftF_eq, readyF_eq ops l0 r (k + 1) hr]
      simp only [Option.map_some, Option.getD_some, ← Array.all_toList]
      cases l0[k]
      · simp only [Bool.not_false, Bool.true_and, cond_false]
        cases (o.after.toList.all fun e => !Region.binds .any e || l0.getD e.on false) <;> rfl
      · rfl
    · have hg : l0.getD k true = true := by simp [List.getD_eq_getElem?_getD, List.getElem?_eq_none hl]
      rw [List.drop_of_length_le hl, hg]
      simp only [Bool.not_true, Bool.false_and, Bool.false_eq_true, if_false]
      have := readyF_eq ops l0 r (k + 1) hr
      rw [List.drop_of_length_le (by omega)] at this
      rw [← this]
      cases r <;> rfl
theorem ready_fast (ops : List Oper) (listed : Array Bool) : readyF listed.toList ops listed.toList 0 = Region.ready .any ops.toArray listed := by
  have := readyF_eq ops listed.toList ops 0 rfl
  rw [List.drop_zero] at this
  rw [this]
  unfold Region.ready
  simp only [List.getElem?_toArray, List.size_toArray, arr_getD]
  rw [List.range_eq_range']
def edgeB (k : Nat) : List Edge → Bool
  | [] => false
  | e :: r => bif Nat.beq e.on k && Region.binds .any e then true else edgeB k r
theorem edgeB_spec {k : Nat} : ∀ {l : List Edge}, edgeB k l = true → ∃ e ∈ l, Region.binds .any e = true ∧ e.on = k
  | [], h => by cases h
  | e :: r, h => by
    unfold edgeB at h
    cases hb : (Nat.beq e.on k && Region.binds .any e) with
    | true =>
      rw [Bool.and_eq_true, Nat.beq_eq] at hb
      exact ⟨e, List.mem_cons_self, hb.2, hb.1⟩
    | false =>
      rw [hb] at h
      obtain ⟨e', h1, h2⟩ := edgeB_spec h
      exact ⟨e', List.mem_cons_of_mem _ h1, h2⟩
theorem apart_symm {ops : Array Oper} {x y : Oper} (h : x.apart ops y = true) : y.apart ops x = true := by
  unfold Oper.apart at *
  cases hx : x.dst <;> cases hy : y.dst <;> simp_all
  exact fun e => h.1.2 e.symm
def freesX (ops : List Oper) (listed : Array Bool) (k : Nat) (ok : Oper) : Bool :=
  (List.range ops.length).all fun j => Nat.beq j k || listed.getD j true || (match ops[j]? with
    | some oj => edgeB k oj.after.toList || (ok.apart ops.toArray oj && stX oj.op)
    | none => true)
theorem freesX_spec {ops : List Oper} {listed : Array Bool} {k : Nat} {ok : Oper} (hf : freesX ops listed k ok = true) :
    ∀ j oj, ops[j]? = some oj → j ≠ k → listed.getD j true = false → (∀ e ∈ oj.after, Region.binds .any e = true → e.on ≠ k) → ok.apart ops.toArray oj = true ∧ stX oj.op = true := by
  intro j oj hj hjk hun hno
  unfold freesX at hf
  have hlt : j < ops.length := (List.getElem?_eq_some_iff.1 hj).1
  have h1 := List.all_eq_true.1 hf j (List.mem_range.2 hlt)
  have hb : Nat.beq j k = false := by rw [← Bool.not_eq_true, Nat.beq_eq]; exact hjk
  simp only [hb, hun, hj, Bool.false_or] at h1
  rw [Bool.or_eq_true] at h1
  rcases h1 with h1 | h1
  · obtain ⟨e, he, hb, ho⟩ := edgeB_spec h1
    exact absurd ho (hno e (Array.mem_toList_iff.1 he) hb)
  · rwa [Bool.and_eq_true] at h1
def lexAtX (ops : List Oper) : Nat → Nat → Array Bool → Bool
  | 0, _, listed => (readyF listed.toList ops listed.toList 0).isEmpty
  | f + 1, k, listed => (match ops[k]? with
      | some ok => bif stX ok.op then (readyF listed.toList ops listed.toList 0).contains k && freesX ops listed k ok else (readyF listed.toList ops listed.toList 0) == [k]
      | none => false) && lexAtX ops f (k + 1) (listed.setIfInBounds k true)
def lexOkX (ops : List Oper) : Bool := lexAtX ops ops.length 0 (Array.replicate ops.length false)
theorem anyX_lex {ops : List Oper} {K : (Nat → SV) → Heap → Prop} : ∀ (l : List Oper) (k : Nat) (listed : Array Bool) (T : Nat → SV) (h : Heap), (∀ j, l[j]? = ops[k + j]?) →
    lexAtX ops l.length k listed = true → seqX P N ops K l T h → anyX P N ops K l.length listed T h
  | [], _, _, T, h, _, hB, hh => ⟨by simpa [lexAtX, ready_fast] using hB, hh⟩
  | o :: l, k, listed, T, h, hl, hB, hh => by
    have h0 : ops[k]? = some o := by simpa using (hl 0).symm
    simp only [List.length_cons, lexAtX, h0, Bool.and_eq_true, ready_fast] at hB
    obtain ⟨hr, hB'⟩ := hB
    have hl' : ∀ j, l[j]? = ops[k + 1 + j]? := fun j => by have := hl (j + 1); simpa [Nat.add_assoc, Nat.add_comm 1 j] using this
    simp only [seqX] at hh
    by_cases hs : stX o.op = true
    · rw [hs] at hr hh
      simp only [cond_true, Bool.and_eq_true] at hr hh
      obtain ⟨v, hy, hn⟩ := hh
      exact anyX_first h0 hs l.length listed _ (freesX_spec hr.2) (by simpa using hr.1) hy (anyX_lex l (k + 1) _ _ _ hl' hB' hn)
    · simp only [Bool.not_eq_true] at hs
      rw [hs] at hr hh
      simp only [cond_false, beq_iff_eq] at hr hh
      obtain ⟨S, e1, e2, hg⟩ := hh
      refine ⟨fun h => (by rw [hr] at h; cases h), fun i hi => ?_⟩
      rw [hr] at hi
      obtain rfl : i = k := by simpa using hi
      unfold opX
      simp only [h0, hs, cond_false]
      exact ⟨S, e1, e2, gstep_mono (fun S' hS => stepE_mono (fun S'' hS => anyX_lex l (i + 1) _ _ _ hl' hB' hS) hS) (fun S' hS => anyX_lex l (i + 1) _ _ _ hl' hB' hS) hg⟩
theorem regionX_sound {ops : List Oper} {id : Nat} {Q : Exit → St → Prop} {S : St} (hm : P.follows .mixedOrders = true)
    (h : anyX P N ops (fun T h => ∀ S' : St, look S'.t = T → S'.h = h → Q .normal S') ops.length (Array.replicate ops.length false) (look S.t) S.h) : SW P N (.region id ops.toArray true) Q S := SW.mk fun M w0 D a w hr => by
  refine wp_region_any hm ?_
  have hr' : Rel M w0 D N S a (drw w) := ⟨hr.defers, hr.n, fun i => (hr.t i).mono (env_drw _ _), hr.own.drw, hr.frm.trans (frm_drw (fun _ => False) w) (fun _ _ x => x.elim), hr.new⟩
  have := anyX_sound (Q := fun e a' w' => ∃ S', Q e S' ∧ Rel M w0 D N S' a' w') (fun S a w hx hr => ⟨S, hx S rfl rfl, hr⟩) _ _ S a _ hr' h
  simpa [drw] using this
/-! ### operations that read no memory come first -/
def pureX (op : Op) : Bool := match op with
  | .load _ _ => false
  | .slice _ _ _ _ _ => false
  | .convert _ _ _ => false
  | op => stX op
theorem pureX_st {op : Op} (h : pureX op = true) : stX op = true := by
  unfold pureX at h
  split at h
  · cases h
  · cases h
  · cases h
  · exact h
theorem valOp_pure {op : Op} (h : pureX op = true) {ρ : Operand → SV} (h1 h2 : Heap) : valOp P op ρ h1 = valOp P op ρ h2 := by
  cases op with
  | load t x => cases h
  | slice _ _ _ _ _ => cases h
  | convert _ _ _ => cases h
  | lookup _ _ _ _ => cases h
  | call c => unfold valOp; split <;> first | rfl | simp_all
  | _ => rfl
theorem valOp_congrA {op : Op} {ρ ρ' : Operand → SV} (h : Heap) (he : ∀ x ∈ op.operands, ρ x = ρ' x) : valOp P op ρ h = valOp P op ρ' h := by
  cases hs : stableOp op with
  | true => exact valOp_congr hs h he
  | false =>
    cases hn : newOp op with
    | true =>
      refine valOp_congrN ?_ h he
      unfold detOp
      have : callOp op = false := by unfold newOp at hn; split at hn <;> first | rfl | cases hn
      rw [this, hn]; simp
    | false =>
      cases op with
      | call c =>
        obtain ⟨callee, args, ts⟩ := c
        cases callee with
        | builtin b =>
          unfold valOp
          split <;> first | rfl | skip
          all_goals simp_all [Go.Call.operands, Op.operands]
        | _ => rfl
      | lookup t x k ok =>
        have e1 := he x (by simp [Op.operands])
        have e2 := he k (by simp [Op.operands])
        simp only [valOp, e1, e2]
      | _ => first | rfl | (cases hs; done) | (cases hn; done)
theorem stepK_map {o : Oper} {S S2 : St} {K1 K2 : St → Prop} (he : ∀ x ∈ o.op.operands, S.ev x = S2.ev x) (hh : S.h = S2.h)
    (hK : ∀ h' x, K1 ((⟨S.t, h'⟩ : St).put o.dst x) → K2 ((⟨S2.t, h'⟩ : St).put o.dst x)) (h : stepK P N o K1 S) : stepK P N o K2 S2 := by
  obtain ⟨t, hp⟩ := S
  obtain ⟨t2, hp2⟩ := S2
  simp only at hh hK
  subst hh
  obtain ⟨hd, h⟩ := h
  refine ⟨hd, ?_⟩
  have hv : valOp P o.op (St.ev ⟨t, hp⟩) hp = valOp P o.op (St.ev ⟨t2, hp⟩) hp := valOp_congrA hp he
  have h' : resK (valOp P o.op (St.ev ⟨t, hp⟩) hp) o.dst (effK P o.op o.dst K1 ⟨t, hp⟩) K1 ⟨t, hp⟩ := h
  show resK (valOp P o.op (St.ev ⟨t2, hp⟩) hp) o.dst (effK P o.op o.dst K2 ⟨t2, hp⟩) K2 ⟨t2, hp⟩
  rw [hv] at h'
  clear hv h
  generalize valOp P o.op (St.ev ⟨t2, hp⟩) hp = R at h' ⊢
  rcases R with _ | ⟨pre, v⟩ | ⟨pre, k, mk⟩
  rotate_left
  · exact ⟨h'.1, hK _ _ h'.2⟩
  · exact ⟨h'.1, fun b hb => hK _ _ (h'.2 b hb)⟩
  · have h : effK P o.op o.dst K1 ⟨t, hp⟩ := h'
    show effK P o.op o.dst K2 ⟨t2, hp⟩
    clear h'
    unfold effK at *
    split at h
    · rename_i ty r hop
      rw [hop] at he
      have e1 : r.map (St.ev ⟨t, hp⟩) = r.map (St.ev ⟨t2, hp⟩) := by
        cases r with
        | none => rfl
        | some x => simp only [Option.map_some]; rw [he x (by simp [Op.operands])]
      rw [e1] at h
      exact ⟨h.1, h.2.1, fun b hb => hK _ _ (h.2.2 b hb)⟩
    · rename_i ty m k x hop
      rw [hop] at he
      have e1 := he m (by simp [Op.operands])
      have e2 := he k (by simp [Op.operands])
      have e3 := he x (by simp [Op.operands])
      rw [e1, e2, e3] at h
      unfold mputK at *
      simp only at h ⊢
      split at h
      · split at h
        · refine ⟨h.1, ?_⟩
          replace h := h.2
          unfold mputR at *
          split at h
          · exact hK _ _ h
          · exact h
        · exact h
      · exact h
    · rename_i ty m k x hop
      rw [hop] at he
      have e1 := he m (by simp [Op.operands])
      have e2 := he k (by simp [Op.operands])
      have e3 := he x (by simp [Op.operands])
      rw [e1, e2, e3] at h
      unfold mputK at *
      simp only at h ⊢
      split at h
      · split at h
        · refine ⟨h.1, ?_⟩
          replace h := h.2
          unfold mputR at *
          split at h
          · exact hK _ _ h
          · exact h
        · exact h
      · exact h
    · rename_i m k ty tk hop
      rw [hop] at he
      have e1 := he m (by simp [Op.operands, Go.Call.operands])
      have e2 := he k (by simp [Op.operands, Go.Call.operands])
      rw [e1, e2] at h
      unfold mdelK at *
      simp only at h ⊢
      split at h
      · split at h
        · refine ⟨h.1, ?_⟩
          replace h := h.2
          unfold mdelR at *
          split at h
          · exact hK _ _ h
          · exact h
        · exact h
      · exact h
    · rename_i ty x hop
      rw [hop] at he
      have e1 := he x (by simp [Op.operands])
      rw [e1] at h
      unfold ifcK at *
      split at h
      · exact ⟨h.1, hK _ _ h.2⟩
      · exact h
    · rename_i st d x hop
      rw [hop] at he
      have e1 := he x (by simp [Op.operands])
      rw [e1] at h
      unfold strK at *
      split at h
      · exact ⟨h.1, h.2.1, hK _ _ h.2.2⟩
      · exact h
    · rename_i ty a v hop
      rw [hop] at he
      have e1 := he a (by simp [Op.operands])
      have e2 := he v (by simp [Op.operands])
      rw [e1, e2] at h
      unfold storeK at *
      split at h
      · simp only at h ⊢
        split at h
        · exact ⟨h.1, h.2.1, hK _ _ h.2.2⟩
        · exact h
      · exact h
    · rename_i f args ts hop
      rw [hop] at he
      have e1 := he f (by simp [Op.operands, Go.Call.operands])
      have e2 : args.toList.map (St.ev ⟨t, hp⟩) = args.toList.map (St.ev ⟨t2, hp⟩) := map_op_congr args (fun x hx => he x (by simp [Op.operands, Go.Call.operands, hx]))
      rw [e1, e2] at h
      unfold callK at *
      split at h
      · exact Call.mono h (fun _ _ x => hK _ _ x)
      · exact h
    · rename_i s x st xt hop
      rw [hop] at he
      have e1 := he s (by simp [Op.operands, Go.Call.operands])
      have e2 := he x (by simp [Op.operands, Go.Call.operands])
      rw [e1, e2] at h
      cases hN : notInt P xt with
      | true =>
        rw [hN] at h
        simp only [cond_true] at h ⊢
        unfold appX at *
        generalize sameB _ _ = bb at h ⊢
        cases bb with
        | true => exact appCK_mono (fun _ _ => hK _ _) h
        | false =>
        simp only [cond_false] at h ⊢
        unfold appK at *
        simp only at h ⊢
        split at h
        · obtain ⟨h1, h2, h3, h4, h5, h6⟩ := h
          refine ⟨h1, h2, h3, h4, h5, ?_⟩
          split at h6
          · exact ⟨h6.1, h6.2.1, fun x => hK _ _ (h6.2.2.1 x), fun x b hb => hK _ _ (h6.2.2.2 x b hb)⟩
          · unfold appOsK at *
            simp only at h6 ⊢
            split at h6
            · obtain ⟨g1, g2, g3, g4, g5, g6⟩ := h6
              exact ⟨g1, g2, g3, g4, g5, fun b hb => hK _ _ (g6 b hb)⟩
            · exact h6
          · exact ⟨h6.1, h6.2.1, h6.2.2.1, fun x => hK _ _ (h6.2.2.2.1 x), fun x b hb => hK _ _ (h6.2.2.2.2 x b hb)⟩
          · unfold appOtK at *
            simp only at h6 ⊢
            split at h6
            · obtain ⟨g1, g2, g3, g4, g5, g6⟩ := h6
              exact ⟨g1, g2, g3, g4, g5, fun b hb => hK _ _ (g6 b hb)⟩
            · exact h6
          · exact h6
        · exact h
      | false =>
        rw [hN] at h
        simp only [cond_false] at h ⊢
        cases hI : (ik P xt).isSome with
        | true =>
          rw [hI] at h
          simp only [cond_true] at h ⊢
          unfold appZK at *
          split at h
          · obtain ⟨h1, h2, h3, h4, h5, h6⟩ := h
            exact ⟨h1, h2, h3, h4, h5, fun b hb => hK _ _ (h6 b hb)⟩
          · exact h
        | false =>
          rw [hI] at h
          exact h.elim
    · exact h
theorem gstep_frame {ops : List Oper} {o : Oper} {d : Option Tmp} {v : SV} {S S2 : St} {K0 : (Nat → SV) → Heap → Prop} {T : Nat → SV} (h1 : look S.t = putF T d v) (h2 : look S2.t = T) (hh : S.h = S2.h) (ha : Away ops o d) (hne : ∀ t, d = some t → o.dst ≠ some t)
    {K' : (Nat → SV) → Heap → Prop} (hK' : ∀ h' x, K0 (putF (putF T o.dst x) d v) h' → K' (putF T o.dst x) h') (h : gstep ops N o.guard o.dst (stepE P N o (TK K0)) (TK K0) S) : gstep ops N o.guard o.dst (stepE P N o (TK K')) (TK K') S2 := by
  have main : ∀ S1 S3 : St, look S1.t = putF T d v → look S3.t = T → S1.h = S3.h → stepE P N o (TK K0) S1 → stepE P N o (TK K') S3 := fun S1 S3 e1 e2 e3 hs => by
    obtain ⟨hc, hle, hs⟩ := hs
    refine ⟨hc, by rw [← e3]; exact hle, ?_⟩
    refine stepK_map (S := ⟨S1.t, hc⟩) (S2 := ⟨S3.t, hc⟩) (fun x hx => ?_) rfl (fun h' x hk => ?_) hs
    · rw [ev_look, ev_look, e1, e2]
      exact evF_putF (ops := ops) ha x hx
    · unfold TK at *
      rw [look_put, h_put] at *
      simp only at hk ⊢
      rw [e1, putF_comm T v x hne] at hk
      rw [e2]
      exact hK' _ _ hk
  have skp : ∀ S1 S3 : St, look S1.t = putF T d v → look S3.t = T → S1.h = S3.h → TK K0 (S1.put o.dst (.sc undef)) → TK K' (S3.put o.dst (.sc undef)) := fun S1 S3 e1 e2 e3 hk => by
    unfold TK at *
    rw [look_put, h_put] at *
    rw [e1, putF_comm T v _ hne, e3] at hk
    rw [e2]
    exact hK' _ _ hk
  cases hg : o.guard with
  | none => rw [hg] at h; exact main S S2 h1 h2 hh h
  | some jw =>
    obtain ⟨j, want⟩ := jw
    rw [hg] at h
    simp only [gstep] at h ⊢
    cases ht : gdst ops j with
    | none => rw [ht] at h; exact h.elim
    | some t =>
      rw [ht] at h
      simp only [guardK] at h ⊢
      have hlt : look S.t t = look S2.t t := by
        rw [h1, h2]
        refine putF_other (fun e => ha t e ?_)
        refine List.mem_append_right _ ?_
        rw [hg]
        unfold gdst at ht
        split at ht
        · rename_i o' ho'
          simp only [List.getElem?_toArray, ho', Option.bind_some, ht]
          simp
        · cases ht
      rw [← hlt]
      have same1 : ∀ b, look S.t t = b → look (S.put (some t) b).t = putF T d v := fun b hb => by
        rw [look_put, ← h1]; funext i; rw [putF_if]; split
        · rename_i e; cases e; exact hb.symm
        · rfl
      have same2 : ∀ b, look S.t t = b → look (S2.put (some t) b).t = T := fun b hb => by
        rw [look_put, ← h2]; funext i; rw [putF_if]; split
        · rename_i e; cases e; rw [← hlt]; exact hb.symm
        · rfl
      generalize hx : look S.t t = x at *
      unfold guardB at *
      split at h
      · rename_i b
        cases b
        · simp only [Bool.false_eq_true, if_false] at h ⊢
          cases want
          · exact main _ _ (same1 _ rfl) (same2 _ rfl) (by rw [h_put, h_put]; exact hh) h
          · exact ⟨h.1, skp _ _ (same1 _ rfl) (same2 _ rfl) (by rw [h_put, h_put]; exact hh) h.2⟩
        · simp only [if_true] at h ⊢
          cases want
          · exact ⟨h.1, skp _ _ (same1 _ rfl) (same2 _ rfl) (by rw [h_put, h_put]; exact hh) h.2⟩
          · exact main _ _ (same1 _ rfl) (same2 _ rfl) (by rw [h_put, h_put]; exact hh) h
      · exact ⟨h.1, skp _ _ h1 h2 hh h.2⟩
      · exact h.elim
theorem YX_heap {ops : List Oper} {o : Oper} (hp : pureX o.op = true) {T : Nat → SV} {h h' : Heap} {v : SV} (hy : YX P N ops o T h v) : YX P N ops o T h' v := by
  obtain ⟨hd, hy⟩ := hy
  refine ⟨hd, hy.imp (fun ⟨hw, pre, hv, hpre⟩ => ⟨hw, pre, by rw [valOp_pure hp h' h]; exact hv, hpre⟩) id⟩
theorem opX_mono2 {ops : List Oper} {j : Nat} {K K' : (Nat → SV) → Heap → Prop} {T : Nat → SV} {h : Heap} (hk : ∀ T h, K T h → K' T h) (hh : opX P N ops j K T h) : opX P N ops j K' T h := by
  unfold opX at hh ⊢
  split at hh
  · exact hk _ _ hh
  · rename_i o ho
    cases hs : stX o.op with
    | true =>
      rw [hs] at hh
      simp only [cond_true] at hh ⊢
      obtain ⟨v, hy, hn⟩ := hh
      exact ⟨v, hy, hk _ _ hn⟩
    | false =>
      rw [hs] at hh
      simp only [cond_false] at hh ⊢
      obtain ⟨S, e1, e2, hg⟩ := hh
      exact ⟨S, e1, e2, gstep_mono (fun S' hS => stepE_mono (fun S'' hS => hk _ _ hS) hS) (fun S' hS => hk _ _ hS) hg⟩
def Fin (T : Nat → SV) : Prop := ∃ t : List (Nat × SV), look t = T
theorem opX_putP {ops : List Oper} {j : Nat} {oi oj : Oper} {v : SV} {T : Nat → SV} {h : Heap} (hT : Fin T) (hj : ops[j]? = some oj) (hap : oi.apart ops.toArray oj = true) (hpi : pureX oi.op = true)
    {K : (Nat → SV) → Heap → Prop} (hy : YX P N ops oi T h v) (hh : opX P N ops j K (putF T oi.dst v) h) :
    opX P N ops j (fun T' h' => Fin T' ∧ YX P N ops oi T' h' v ∧ K (putF T' oi.dst v) h') T h := by
  obtain ⟨h1, h2, h3⟩ := Oper.apart_spec hap
  obtain ⟨t, rfl⟩ := hT
  have yy : ∀ x h', YX P N ops oi (putF (look t) oj.dst x) h' v := fun x h' => YX_heap hpi ((YX_putF (pureX_st hpi) (fun t ht => h3 t ht)).2 hy)
  have fin : ∀ x, Fin (putF (look t) oj.dst x) := fun x => ⟨((⟨t, []⟩ : St).put oj.dst x).t, look_put _ _ _⟩
  unfold opX at hh ⊢
  simp only [hj] at hh ⊢
  cases hs : stX oj.op with
  | true =>
    rw [hs] at hh
    simp only [cond_true] at hh ⊢
    obtain ⟨u, hu, hn⟩ := hh
    exact ⟨u, (YX_putF hs (fun t ht => h1 t ht)).1 hu, fin u, yy u h, by rw [← putF_comm (look t) v u h2]; exact hn⟩
  | false =>
    rw [hs] at hh
    simp only [cond_false] at hh ⊢
    obtain ⟨S, e1, e2, hg⟩ := hh
    refine ⟨⟨t, h⟩, rfl, rfl, gstep_frame e1 rfl e2 (fun t ht => h1 t ht) h2 (fun h' x hk => ⟨fin x, yy x h', hk⟩) hg⟩
theorem anyX_pure {ops : List Oper} {K : (Nat → SV) → Heap → Prop} {i : Nat} {oi : Oper} {v : SV} (hi : ops[i]? = some oi) (hpi : pureX oi.op = true) :
    ∀ (fuel : Nat) (listed : Array Bool) (T : Nat → SV) (h : Heap), Fin T →
      (∀ j oj, ops[j]? = some oj → j ≠ i → listed.getD j true = false → (∀ e ∈ oj.after, Region.binds .any e = true → e.on ≠ i) → (∀ e ∈ oi.after, Region.binds .any e = true → e.on ≠ j) → oi.apart ops.toArray oj = true) →
      i ∈ Region.ready .any ops.toArray listed → YX P N ops oi T h v →
      anyX P N ops K fuel (listed.setIfInBounds i true) (putF T oi.dst v) h → anyX P N ops K (fuel + 1) listed T h := by
  have hsi := pureX_st hpi
  have use : ∀ {K' : (Nat → SV) → Heap → Prop} {T : Nat → SV} {h : Heap}, YX P N ops oi T h v → K' (putF T oi.dst v) h → opX P N ops i K' T h := fun hy hk => by
    unfold opX; simp only [hi, hsi, cond_true]; exact ⟨v, hy, hk⟩
  intro fuel
  induction fuel with
  | zero =>
    intro listed T h hT _ hr hy H
    refine ⟨fun h => (by rw [h] at hr; cases hr), fun j hj => ?_⟩
    by_cases hji : j = i
    · subst hji; exact use hy H
    · have := ready_mono hj hji
      rw [H.1] at this
      cases this
  | succ fuel ih =>
    intro listed T h hT hfree hr hy H
    refine ⟨fun h => (by rw [h] at hr; cases hr), fun j hj => ?_⟩
    by_cases hji : j = i
    · subst hji; exact use hy H
    · have h1 := H.2 j (ready_mono hj hji)
      obtain ⟨hjun, oj, hoj, hall⟩ := mem_ready.1 hj
      rw [List.getElem?_toArray] at hoj
      have nol : ∀ (k l : Nat) (ok : Oper), ops[k]? = some ok → (∀ e ∈ ok.after, Region.binds .any e = true → listed.getD e.on false = true) → listed.getD l true = false → ∀ e ∈ ok.after, Region.binds .any e = true → e.on ≠ l := fun k l ok _ hal hun e he hb heq => by
        have h1 := hal e he hb
        rw [heq] at h1
        rcases Nat.lt_or_ge l listed.size with h' | h'
        · simp [h'] at hun h1; rw [hun] at h1; cases h1
        · simp [Array.getElem?_eq_none h'] at h1
      obtain ⟨hiun, oi', hoi, hali⟩ := mem_ready.1 hr
      rw [List.getElem?_toArray, hi] at hoi
      cases hoi
      have hnot := nol j i oj hoj hall hiun
      have hap := hfree j oj hoj hji hjun hnot (nol i j oi hi hali hjun)
      have h2 := opX_putP hT hoj hap hpi hy h1
      have hfree' : ∀ k ok, ops[k]? = some ok → k ≠ i → (listed.setIfInBounds j true).getD k true = false →
          (∀ e ∈ ok.after, Region.binds .any e = true → e.on ≠ i) → (∀ e ∈ oi.after, Region.binds .any e = true → e.on ≠ k) → oi.apart ops.toArray ok = true := fun k ok hk hki hun hno hno2 => by
        refine hfree k ok hk hki ?_ hno hno2
        by_cases hjk : j = k
        · subst hjk; exact hjun
        · rw [getD_set_ne true hjk] at hun; exact hun
      refine opX_mono2 (fun T' h' ⟨hf, h3, h4⟩ => ih (listed.setIfInBounds j true) T' h' hf hfree' (ready_mono hr (Ne.symm hji)) h3 ?_) h2
      rw [Array.setIfInBounds_comm _ _ hji]
      exact h4
def cleanX (ops : List Oper) : Bool := (List.range ops.length).all fun i => match ops[i]? with
  | some oi => (List.range i).all fun j => (match ops[j]? with
    | some oj => edgeB i oj.after.toList || edgeB j oi.after.toList || oi.apart ops.toArray oj
    | none => true)
  | none => true
theorem cleanX_spec {ops : List Oper} (hc : cleanX ops = true) {i j : Nat} {oi oj : Oper} (hi : ops[i]? = some oi) (hj : ops[j]? = some oj) (hne : j ≠ i) (h1 : ∀ e ∈ oj.after, Region.binds .any e = true → e.on ≠ i)
    (h2 : ∀ e ∈ oi.after, Region.binds .any e = true → e.on ≠ j) : oi.apart ops.toArray oj = true := by
  have key : ∀ {i j : Nat} {oi oj : Oper}, ops[i]? = some oi → ops[j]? = some oj → j < i → (∀ e ∈ oj.after, Region.binds .any e = true → e.on ≠ i) → (∀ e ∈ oi.after, Region.binds .any e = true → e.on ≠ j) → oi.apart ops.toArray oj = true := by
    intro i j oi oj hi hj hlt h1 h2
    unfold cleanX at hc
    have a := List.all_eq_true.1 hc i (List.mem_range.2 (List.getElem?_eq_some_iff.1 hi).1)
    simp only [hi] at a
    have b := List.all_eq_true.1 a j (List.mem_range.2 hlt)
    simp only [hj, Bool.or_eq_true] at b
    rcases b with (b | b) | b
    · obtain ⟨e, he, hb, ho⟩ := edgeB_spec b
      exact absurd ho (h1 e (Array.mem_toList_iff.1 he) hb)
    · obtain ⟨e, he, hb, ho⟩ := edgeB_spec b
      exact absurd ho (h2 e (Array.mem_toList_iff.1 he) hb)
    · exact b
  rcases Nat.lt_or_ge j i with h | h
  · exact key hi hj h h1 h2
  · exact apart_symm (key hj hi (by omega) h2 h1)
def quietX (ops : List Oper) (listed : Array Bool) (k : Nat) : Bool :=
  (List.range ops.length).all fun j => Nat.beq j k || listed.getD j true || (match ops[j]? with
    | some oj => stX oj.op || edgeB k oj.after.toList
    | none => true)
theorem quietX_spec {ops : List Oper} {listed : Array Bool} {k : Nat} (hf : quietX ops listed k = true) :
    ∀ j oj, ops[j]? = some oj → j ≠ k → listed.getD j true = false → (∀ e ∈ oj.after, Region.binds .any e = true → e.on ≠ k) → stX oj.op = true := by
  intro j oj hj hjk hun hno
  unfold quietX at hf
  have hlt : j < ops.length := (List.getElem?_eq_some_iff.1 hj).1
  have h1 := List.all_eq_true.1 hf j (List.mem_range.2 hlt)
  have hb : Nat.beq j k = false := by rw [← Bool.not_eq_true, Nat.beq_eq]; exact hjk
  simp only [hb, hun, hj, Bool.false_or] at h1
  rw [Bool.or_eq_true] at h1
  rcases h1 with h1 | h1
  · exact h1
  · obtain ⟨e, he, hb, ho⟩ := edgeB_spec h1
    exact absurd ho (hno e (Array.mem_toList_iff.1 he) hb)
end
end Go.Ab
/-! Az: The reading of code and of calls; a call without arguments that reads true. -/
namespace Go.Ab
open Go.RowKit
variable [Gl]
/-! ### equality of states -/
def vbeq : Value → Value → Bool
  | .int k n, .int k' n' => decide (k = k') && decide (n = n')
  | .bool b, .bool b' => b == b'
  | .string s, .string s' => decide (s.data.toList = s'.data.toList)
  | .slice none a b, .slice none c d => Nat.beq a c && Nat.beq b d
  | .pointer none, .pointer none => true
  | .map none, .map none => true
  | .nilFunc, .nilFunc => true
  | .nilIface, .nilIface => true
  | .tuple ⟨[]⟩, .tuple ⟨[]⟩ => true
  | _, _ => false
theorem vbeq_eq {a b : Value} (h : vbeq a b = true) : a = b := by
  unfold vbeq at h
  split at h
  · rw [Bool.and_eq_true, decide_eq_true_eq, decide_eq_true_eq] at h; rw [h.1, h.2]
  · rw [beq_iff_eq] at h; rw [h]
  · rename_i s s'
    rw [decide_eq_true_eq] at h
    have : s.data = s'.data := Array.toList_inj.1 h
    cases s; cases s'; simp only at this; rw [this]
  · rw [Bool.and_eq_true, Nat.beq_eq, Nat.beq_eq] at h; rw [h.1, h.2]
  · rfl
  · rfl
  · rfl
  · rfl
  · rfl
  · cases h
def fbeq : Fn → Fn → Bool
  | .func f, .func g => Nat.beq f g
  | _, _ => false
theorem fbeq_eq {a b : Fn} (h : fbeq a b = true) : a = b := by
  unfold fbeq at h
  split at h
  · rw [Nat.beq_eq] at h; rw [h]
  · cases h
def pbeq : List (Value × Value) → List (Value × Value) → Bool
  | [], [] => true
  | (a, v) :: r, (b, u) :: s => vbeq a b && vbeq v u && pbeq r s
  | _, _ => false
theorem pbeq_eq : ∀ (l m : List (Value × Value)), pbeq l m = true → l = m
  | [], [], _ => rfl
  | [], _ :: _, h => by cases h
  | _ :: _, [], h => by cases h
  | (a, v) :: r, (b, u) :: s, h => by
    simp only [pbeq, Bool.and_eq_true] at h
    rw [vbeq_eq h.1.1, vbeq_eq h.1.2, pbeq_eq r s h.2]
mutual
def IV.beq : IV → IV → Bool
  | .any, .any => true
  | .sc v, .sc v' => vbeq v v'
  | .agg cs, .agg cs' => IV.beqL cs cs'
  | .tup cs, .tup cs' => IV.beqL cs cs'
  | .os b o l s, .os b' o' l' s' => Nat.beq b b' && Nat.beq o o' && Nat.beq l l' && Nat.beq s s'
  | .op b o, .op b' o' => Nat.beq b b' && Nat.beq o o'
  | .mp b, .mp b' => Nat.beq b b'
  | .mpv l, .mpv l' => pbeq l l'
  | .fn g a c, .fn g' a' c' => fbeq g g' && IV.beqL a a' && IV.beqL c c'
  | _, _ => false
def IV.beqL : List IV → List IV → Bool
  | [], [] => true
  | x :: r, y :: s => IV.beq x y && IV.beqL r s
  | _, _ => false
end
mutual
theorem IV.beq_eq : ∀ (a b : IV), IV.beq a b = true → a = b
  | .any, b, h => by cases b <;> first | rfl | (simp [IV.beq] at h; done)
  | .sc v, b, h => by
    cases b <;> first | (simp [IV.beq] at h; done) | skip
    simp only [IV.beq] at h; rw [vbeq_eq h]
  | .agg cs, b, h => by
    cases b <;> first | (simp [IV.beq] at h; done) | skip
    simp only [IV.beq] at h; rw [IV.beqL_eq _ _ h]
  | .tup cs, b, h => by
    cases b <;> first | (simp [IV.beq] at h; done) | skip
    simp only [IV.beq] at h; rw [IV.beqL_eq _ _ h]
  | .os b o l s, x, h => by
    cases x <;> first | (simp [IV.beq] at h; done) | skip
    simp only [IV.beq, Bool.and_eq_true, Nat.beq_eq] at h; rw [h.1.1.1, h.1.1.2, h.1.2, h.2]
  | .op b o, x, h => by
    cases x <;> first | (simp [IV.beq] at h; done) | skip
    simp only [IV.beq, Bool.and_eq_true, Nat.beq_eq] at h; rw [h.1, h.2]
  | .fn g a c, x, h => by
    cases x <;> first | (simp [IV.beq] at h; done) | skip
    simp only [IV.beq, Bool.and_eq_true] at h; rw [fbeq_eq h.1.1, IV.beqL_eq _ _ h.1.2, IV.beqL_eq _ _ h.2]
  | .mp b, x, h => by
    cases x <;> first | (simp [IV.beq] at h; done) | skip
    simp only [IV.beq, Nat.beq_eq] at h; rw [h]
  | .mpv l, x, h => by
    cases x <;> first | (simp [IV.beq] at h; done) | skip
    simp only [IV.beq] at h; rw [pbeq_eq _ _ h]
theorem IV.beqL_eq : ∀ (a b : List IV), IV.beqL a b = true → a = b
  | [], b, h => by cases b <;> first | rfl | (simp [IV.beqL] at h; done)
  | x :: r, b, h => by
    cases b with
    | nil => simp [IV.beqL] at h
    | cons y s =>
      simp only [IV.beqL, Bool.and_eq_true] at h
      rw [IV.beq_eq _ _ h.1, IV.beqL_eq _ _ h.2]
end
def hbeq : IHeap → IHeap → Bool
  | [], [] => true
  | (n, c) :: r, (m, d) :: s => Nat.beq n m && IV.beqL c d && hbeq r s
  | _, _ => false
theorem hbeq_eq : ∀ (a b : IHeap), hbeq a b = true → a = b
  | [], [], _ => rfl
  | [], _ :: _, h => by simp [hbeq] at h
  | _ :: _, [], h => by simp [hbeq] at h
  | (n, c) :: r, (m, d) :: s, h => by
    simp only [hbeq, Bool.and_eq_true, Nat.beq_eq] at h
    rw [h.1.1, IV.beqL_eq _ _ h.1.2, hbeq_eq _ _ h.2]
def TT.beq : TT → TT → Bool
  | .nil, .nil => true
  | .node v l r, .node v' l' r' => IV.beq v v' && TT.beq l l' && TT.beq r r'
  | _, _ => false
theorem TT.beq_eq : ∀ (a b : TT), TT.beq a b = true → a = b
  | .nil, .nil, _ => rfl
  | .nil, .node _ _ _, h => by simp [TT.beq] at h
  | .node _ _ _, .nil, h => by simp [TT.beq] at h
  | .node v l r, .node v' l' r', h => by
    simp only [TT.beq, Bool.and_eq_true] at h
    rw [IV.beq_eq _ _ h.1.1, TT.beq_eq _ _ h.1.2, TT.beq_eq _ _ h.2]
abbrev NodeI := Array Bool × IS
def nbeq (a b : NodeI) : Bool := (a.1.toList == b.1.toList) && TT.beq a.2.t b.2.t && hbeq a.2.h b.2.h
theorem nbeq_eq {a b : NodeI} (h : nbeq a b = true) : a = b := by
  unfold nbeq at h
  simp only [Bool.and_eq_true, beq_iff_eq] at h
  obtain ⟨⟨h1, h2⟩, h3⟩ := h
  obtain ⟨l, t, hh⟩ := a
  obtain ⟨l', t', hh'⟩ := b
  simp only at h1 h2 h3
  rw [Array.toList_inj.1 h1, TT.beq_eq _ _ h2, hbeq_eq _ _ h3]
/-! ### every order, side by side -/
def eagerI (ops : List Oper) (listed : Array Bool) (k : Nat) : Bool := match ops[k]? with
  | some ok => pureX ok.op || (stX ok.op && quietX ops listed k)
  | none => false
noncomputable def oneI (P : Program) (call : CallI) (N sz : Nat) (ops : List Oper) (c0 : Nat) (nd : NodeI) (k : Nat) : Option NodeI := match ops[k]? with
  | some o => match gI P call N ops (c0 + k * sz) o nd.2 with
    | some S' => some (nd.1.setIfInBounds k true, S')
    | none => none
  | none => none
def allI {α : Type} (f : Nat → Option α) : List Nat → Option (List α)
  | [] => some []
  | k :: r => match f k with
    | some x => match allI f r with
      | some l => some (x :: l)
      | none => none
    | none => none
noncomputable def nextI (P : Program) (call : CallI) (N sz : Nat) (ops : List Oper) (c0 : Nat) (nd : NodeI) : Option (List NodeI) :=
  match Region.ready .any ops.toArray nd.1 with
  | [] => none
  | k :: r => match (bif cleanX ops then (k :: r).find? (eagerI ops nd.1) else none) with
    | some j => match oneI P call N sz ops c0 nd j with
      | some x => some [x]
      | none => none
    | none => allI (oneI P call N sz ops c0 nd) (k :: r)
def ddI (x : NodeI) (l : List NodeI) : List NodeI := bif l.any (nbeq x) then l else x :: l
noncomputable def levelI (P : Program) (call : CallI) (N sz : Nat) (ops : List Oper) (c0 : Nat) : List NodeI → Option (List NodeI)
  | [] => some []
  | nd :: r => match nextI P call N sz ops c0 nd with
    | some l => match levelI P call N sz ops c0 r with
      | some m => some (l.foldr ddI m)
      | none => none
    | none => none
noncomputable def exploreI (P : Program) (call : CallI) (N sz : Nat) (ops : List Oper) (c0 : Nat) : Nat → List NodeI → Option IS
  | 0, [nd] => bif (Region.ready .any ops.toArray nd.1).isEmpty then some nd.2 else none
  | 0, _ => none
  | f + 1, l => match levelI P call N sz ops c0 l with
    | some m => exploreI P call N sz ops c0 f m
    | none => none
theorem eager_found {ops : List Oper} {l : List Nat} {listed : Array Bool} {j : Nat} (h : (bif cleanX ops then l.find? (eagerI ops listed) else none) = some j) : cleanX ops = true ∧ j ∈ l ∧ eagerI ops listed j = true := by
  cases hc : cleanX ops with
  | false => rw [hc] at h; cases h
  | true => rw [hc] at h; exact ⟨rfl, List.mem_of_find?_eq_some h, List.find?_some h⟩
theorem mem_ddI {x y : NodeI} {l : List NodeI} : (y = x ∨ y ∈ l) ↔ y ∈ ddI x l := by
  unfold ddI
  cases h : l.any (nbeq x) with
  | true =>
    simp only [cond_true]
    obtain ⟨z, hz, he⟩ := List.any_eq_true.1 h
    rw [← nbeq_eq he] at hz
    exact ⟨fun h => h.elim (fun e => e ▸ hz) id, .inr⟩
  | false => simp
theorem mem_foldI {y : NodeI} : ∀ {l m : List NodeI}, y ∈ l.foldr ddI m ↔ y ∈ l ∨ y ∈ m
  | [], m => by simp
  | x :: l, m => by rw [List.foldr_cons, ← mem_ddI, mem_foldI, List.mem_cons, or_assoc]
section
variable {P : Program} {N : Nat}
theorem levelI_mem {call : CallI} {sz c0 : Nat} {ops : List Oper} : ∀ {l m : List NodeI}, levelI P call N sz ops c0 l = some m →
    (∀ nd ∈ l, ∃ n, nextI P call N sz ops c0 nd = some n ∧ ∀ x ∈ n, x ∈ m) ∧ ∀ x ∈ m, ∃ nd ∈ l, ∃ n, nextI P call N sz ops c0 nd = some n ∧ x ∈ n
  | [], m, h => by cases h; exact ⟨fun nd h => (by cases h), fun nd h => (by cases h)⟩
  | nd :: r, m, h => by
    simp only [levelI] at h
    split at h
    · rename_i n hn
      split at h
      · rename_i m' hm
        cases h
        obtain ⟨i1, i2⟩ := levelI_mem hm
        refine ⟨fun nd' h' => ?_, fun x hx => ?_⟩
        · rcases List.mem_cons.1 h' with rfl | h'
          · exact ⟨n, hn, fun x hx => mem_foldI.2 (.inl hx)⟩
          · obtain ⟨n', h1, h2⟩ := i1 nd' h'
            exact ⟨n', h1, fun x hx => mem_foldI.2 (.inr (h2 x hx))⟩
        · rcases mem_foldI.1 hx with hx | hx
          · exact ⟨nd, List.mem_cons_self, n, hn, hx⟩
          · obtain ⟨nd', h1, n', h2, h3⟩ := i2 x hx
            exact ⟨nd', List.mem_cons_of_mem _ h1, n', h2, h3⟩
      · cases h
    · cases h
theorem allI_mem {α : Type} {f : Nat → Option α} : ∀ {l : List Nat} {m : List α}, allI f l = some m → (∀ k ∈ l, ∃ x, f k = some x ∧ x ∈ m) ∧ ∀ x ∈ m, ∃ k ∈ l, f k = some x
  | [], m, h => by cases h; exact ⟨fun k h => (by cases h), fun k h => (by cases h)⟩
  | k :: r, m, h => by
    simp only [allI] at h
    split at h
    · rename_i x hx
      split at h
      · rename_i l hl
        cases h
        obtain ⟨i1, i2⟩ := allI_mem hl
        refine ⟨fun k' h' => ?_, fun y hy => ?_⟩
        · rcases List.mem_cons.1 h' with rfl | h'
          · exact ⟨x, hx, List.mem_cons_self⟩
          · obtain ⟨y, h1, h2⟩ := i1 k' h'
            exact ⟨y, h1, List.mem_cons_of_mem _ h2⟩
        · rcases List.mem_cons.1 hy with rfl | hy
          · exact ⟨k, List.mem_cons_self, hx⟩
          · obtain ⟨k', h1, h2⟩ := i2 y hy
            exact ⟨k', List.mem_cons_of_mem _ h1, h2⟩
      · cases h
    · cases h
def Lst (I : Nat → Prop) (c0 sz : Nat) (listed : Array Bool) : Nat → Prop := fun n => I n ∨ ∃ i, listed.getD i false = true ∧ c0 + i * sz ≤ n ∧ n < c0 + i * sz + sz
theorem slot_eq {c0 sz i k n : Nat} (h1 : c0 + i * sz ≤ n) (h2 : n < c0 + i * sz + sz) (h3 : c0 + k * sz ≤ n) (h4 : n < c0 + k * sz + sz) : i = k := by
  rcases Nat.lt_trichotomy i k with h | h | h
  · have := Nat.mul_le_mul_right sz (Nat.succ_le_of_lt h)
    rw [Nat.succ_mul] at this
    omega
  · exact h
  · have := Nat.mul_le_mul_right sz (Nat.succ_le_of_lt h)
    rw [Nat.succ_mul] at this
    omega
theorem slot_in {c0 sz k n m : Nat} (hk : k < n) (h1 : c0 + k * sz ≤ m) (h2 : m < c0 + k * sz + sz) : c0 ≤ m ∧ m < c0 + n * sz := by
  have := Nat.mul_le_mul_right sz (Nat.succ_le_of_lt hk)
  rw [Nat.succ_mul] at this
  omega
theorem lst_out {I : Nat → Prop} {c0 sz n k : Nat} {listed : Array Bool} (hI : Out I c0 (n * sz)) (hk : k < n) (hl : listed.getD k false = false) : Out (Lst I c0 sz listed) (c0 + k * sz) sz := fun m h1 h2 hm => by
  rcases hm with hm | ⟨i, hi, h3, h4⟩
  · have := slot_in hk h1 h2
    exact hI m this.1 this.2 hm
  · have := slot_eq h3 h4 h1 h2
    subst this
    rw [hl] at hi
    cases hi
theorem lst_set {I : Nat → Prop} {c0 sz k : Nat} {listed : Array Bool} (hk : k < listed.size) : ∀ m, Plus (Lst I c0 sz listed) (c0 + k * sz) sz m → Lst I c0 sz (listed.setIfInBounds k true) m := fun m hm => by
  rcases hm with (hm | ⟨i, hi, h3⟩) | hm
  · exact .inl hm
  · refine .inr ⟨i, ?_, h3⟩
    by_cases hik : k = i
    · subst hik; simp [hk]
    · rw [getD_set_ne false hik]; exact hi
  · exact .inr ⟨k, by simp [hk], hm⟩
theorem agr_slot {c0 sz k n : Nat} {ρ ρ' : Nat → Nat} (hk : k < n) (h : Agr (c0 + k * sz) sz ρ ρ') : Agr c0 (n * sz) ρ ρ' := fun m hm => h m fun x => hm (slot_in hk x.1 x.2)
theorem Agr.trans {lo sz : Nat} {ρ ρ1 ρ2 : Nat → Nat} (h1 : Agr lo sz ρ ρ1) (h2 : Agr lo sz ρ1 ρ2) : Agr lo sz ρ ρ2 := fun m hm => (h2 m hm).trans (h1 m hm)
structure NodeOK (I : Nat → Prop) (c0 sz n : Nat) (nd : NodeI) : Prop where
  siz : nd.1.size = n
  sup : SupS (Lst I c0 sz nd.1) nd.2
theorem oneI_ok {call : CallI} {sz c0 k : Nat} (hcall : CallOK P call sz) (hz : 0 < sz) {ops : List Oper} {I : Nat → Prop} (hI : Out I c0 (ops.length * sz)) {nd x : NodeI} (hn : NodeOK I c0 sz ops.length nd)
    (hk : k ∈ Region.ready .any ops.toArray nd.1) (h : oneI P call N sz ops c0 nd k = some x) :
    NodeOK I c0 sz ops.length x ∧ ∃ o, ops[k]? = some o ∧ k < ops.length ∧ x.1 = nd.1.setIfInBounds k true ∧ GOK P N ops o (c0 + k * sz) sz (Lst I c0 sz nd.1) nd.2 x.2 := by
  unfold oneI at h
  split at h
  · rename_i o ho
    split at h
    · rename_i S' hg
      cases h
      have hlt : k < ops.length := (List.getElem?_eq_some_iff.1 ho).1
      have hun : nd.1.getD k false = false := by
        have := (mem_ready.1 hk).1
        have hks : k < nd.1.size := by rw [hn.siz]; exact hlt
        simpa [hks] using this
      have g := gI_ok hcall hz hg (lst_out hI hlt hun) hn.sup
      exact ⟨⟨by simpa using hn.siz, g.sup.mono (lst_set (by rw [hn.siz]; exact hlt))⟩, o, ho, hlt, rfl, g⟩
    · cases h
  · cases h
theorem explore_ok {call : CallI} {sz c0 : Nat} (hcall : CallOK P call sz) (hz : 0 < sz) {ops : List Oper} {I : Nat → Prop} (hI : Out I c0 (ops.length * sz)) : ∀ (f : Nat) (l : List NodeI) (S' : IS), exploreI P call N sz ops c0 f l = some S' →
    (∀ nd ∈ l, NodeOK I c0 sz ops.length nd) → (l ≠ [] → SupS (Plus I c0 (ops.length * sz)) S') ∧
    ∀ nd ∈ l, ∀ ρ T h, DS ρ nd.2 T h → ∀ K : (Nat → SV) → Heap → Prop, (∀ ρ' T' h', Agr c0 (ops.length * sz) ρ ρ' → DS ρ' S' T' h' → K T' h') → anyX P N ops K f nd.1 T h := by
  intro f
  induction f with
  | zero =>
    intro l S' h hn
    rcases l with _ | ⟨nd, _ | ⟨nd2, r⟩⟩
    · cases h
    · simp only [exploreI] at h
      cases hr : (Region.ready .any ops.toArray nd.1).isEmpty with
      | false => rw [hr] at h; cases h
      | true =>
        rw [hr] at h
        cases h
        refine ⟨fun _ => ((hn nd List.mem_cons_self).sup).mono fun m hm => ?_, fun nd' hnd ρ T h Dd K hK => ?_⟩
        · rcases hm with hm | ⟨i, hi, h3, h4⟩
          · exact .inl hm
          · refine .inr ?_
            have hlt : i < nd.1.size := by
              rcases Nat.lt_or_ge i nd.1.size with h | h
              · exact h
              · simp [Array.getElem?_eq_none h] at hi
            rw [(hn nd List.mem_cons_self).siz] at hlt
            exact slot_in hlt h3 h4
        · rw [List.mem_singleton.1 hnd] at Dd ⊢
          exact ⟨by simpa using hr, hK ρ T h (.refl _ _ _) Dd⟩
    · simp only [exploreI] at h
      cases h
  | succ f ih =>
    intro l S' h hn
    simp only [exploreI] at h
    split at h
    · rename_i m hm
      obtain ⟨l1, l2⟩ := levelI_mem hm
      have succ : ∀ nd ∈ l, ∀ n, nextI P call N sz ops c0 nd = some n → ∀ x ∈ n, ∃ k, k ∈ Region.ready .any ops.toArray nd.1 ∧ oneI P call N sz ops c0 nd k = some x := fun nd hnd n hnx x hx => by
        unfold nextI at hnx
        split at hnx
        · cases hnx
        · rename_i k r hrd
          split at hnx
          · rename_i j hj
            split at hnx
            · rename_i y hy
              cases hnx
              rw [List.mem_singleton.1 hx]
              exact ⟨j, by rw [hrd]; exact (eager_found hj).2.1, hy⟩
            · cases hnx
          · obtain ⟨j, h1, h2⟩ := (allI_mem hnx).2 x hx
            exact ⟨j, by rw [hrd]; exact h1, h2⟩
      have hm' : ∀ x ∈ m, NodeOK I c0 sz ops.length x := fun x hx => by
        obtain ⟨nd, hnd, n, h1, h2⟩ := l2 x hx
        obtain ⟨k, h3, h4⟩ := succ nd hnd n h1 x h2
        exact (oneI_ok hcall hz hI (hn nd hnd) h3 h4).1
      obtain ⟨i1, i2⟩ := ih m S' h hm'
      refine ⟨fun hne => ?_, fun nd hnd ρ T h Dd K hK => ?_⟩
      · obtain ⟨nd, r, rfl⟩ := List.exists_cons_of_ne_nil hne
        obtain ⟨n, h1, h2⟩ := l1 nd List.mem_cons_self
        have : n ≠ [] := by
          unfold nextI at h1
          split at h1
          · cases h1
          · split at h1
            · split at h1
              · cases h1; simp
              · cases h1
            · intro e
              subst e
              obtain ⟨x, _, hx⟩ := (allI_mem h1).1 _ List.mem_cons_self
              cases hx
        obtain ⟨x, r', rfl⟩ := List.exists_cons_of_ne_nil this
        exact i1 (fun e => by have := h2 x List.mem_cons_self; rw [e] at this; cases this)
      · obtain ⟨n, h1, h2⟩ := l1 nd hnd
        have use : ∀ k, k ∈ Region.ready .any ops.toArray nd.1 → ∀ x, oneI P call N sz ops c0 nd k = some x → x ∈ n → opX P N ops k (anyX P N ops K f (nd.1.setIfInBounds k true)) T h ∧
            (∃ o, ops[k]? = some o ∧ (stX o.op = true → ∃ v, YX P N ops o T h v ∧ anyX P N ops K f (nd.1.setIfInBounds k true) (putF T o.dst v) h)) := fun k hk x hx hxn => by
          obtain ⟨_, o, ho, hlt, e1, g⟩ := oneI_ok hcall hz hI (hn nd hnd) hk hx
          have nxt := i2 x (h2 x hxn)
          rw [e1] at nxt
          have st : stX o.op = true → ∃ v, YX P N ops o T h v ∧ anyX P N ops K f (nd.1.setIfInBounds k true) (putF T o.dst v) h := fun hst => by
            obtain ⟨v, e, hv⟩ := g.st hst
            refine ⟨v.den ρ, hv ρ T h Dd, nxt ρ _ _ ?_ K hK⟩
            rw [e]
            exact Dd.put o.dst v
          refine ⟨?_, o, ho, st⟩
          unfold opX
          simp only [ho]
          cases hst : stX o.op with
          | true => exact st hst
          | false =>
            obtain ⟨S0, e2, e3⟩ := Dd.st
            subst e2 e3
            exact ⟨S0, rfl, rfl, g.run ρ S0 Dd _ (fun ρ1 T' h' a1 d1 => nxt ρ1 T' h' d1 K (fun ρ' T'' h'' a2 d2 => hK ρ' T'' h'' ((agr_slot hlt a1).trans a2) d2))⟩
        unfold nextI at h1
        split at h1
        · cases h1
        · rename_i k r hrd
          split at h1
          · rename_i j hj
            split at h1
            · rename_i y hy
              cases h1
              obtain ⟨hcl, hjl, hje⟩ := eager_found hj
              have hjm : j ∈ Region.ready .any ops.toArray nd.1 := by rw [hrd]; exact hjl
              unfold eagerI at hje
              obtain ⟨_, o, ho, st⟩ := use j hjm y hy List.mem_cons_self
              rw [ho] at hje
              simp only [Bool.or_eq_true, Bool.and_eq_true] at hje
              have hst : stX o.op = true := hje.elim pureX_st (fun x => x.1)
              obtain ⟨v, hy1, hy2⟩ := st hst
              have nol : ∀ l, nd.1.getD l true = false → ∀ e ∈ o.after, Region.binds .any e = true → e.on ≠ l := fun l hun e he hb heq => by
                obtain ⟨_, o', ho', hal⟩ := mem_ready.1 hjm
                rw [List.getElem?_toArray, ho] at ho'
                cases ho'
                have h1 := hal e he hb
                rw [heq] at h1
                rcases Nat.lt_or_ge l nd.1.size with h' | h'
                · simp [h'] at hun h1; rw [hun] at h1; cases h1
                · simp [Array.getElem?_eq_none h'] at h1
              rcases hje with hp | ⟨_, hq⟩
              · obtain ⟨S0, e2, e3⟩ := Dd.st
                exact anyX_pure ho hp f nd.1 T h ⟨S0.t, e2⟩ (fun j' oj hj' hne hun h1 h2 => cleanX_spec hcl ho hj' hne h1 h2) hjm hy1 hy2
              · exact anyX_first ho hst f nd.1 T (fun j' oj hj' hne hun h1 => ⟨cleanX_spec hcl ho hj' hne h1 (nol j' hun), quietX_spec hq j' oj hj' hne hun h1⟩) hjm hy1 hy2
            · cases h1
          · refine ⟨fun h0 => (by rw [hrd] at h0; cases h0), fun j hj => ?_⟩
            obtain ⟨x, hx, hxn⟩ := (allI_mem h1).1 j (by rw [← hrd]; exact hj)
            exact (use j hj x hx hxn).1
    · cases h
/-! ### code -/
inductive IX where
  | nrm
  | ext (i : Nat)
  | rtn
def IX.exit : IX → Exit
  | .nrm => .normal
  | .ext i => .exit i
  | .rtn => .ret
noncomputable def regI (P : Program) (call : CallI) (N sz c0 : Nat) (ops : List Oper) (draw : Bool) (S : IS) : Option IS :=
  bif draw then
    (bif lexOkX ops then seqI P call N sz ops ops c0 S else exploreI P call N sz ops c0 ops.length [(Array.replicate ops.length false, S)])
  else seqI P call N sz ops ops c0 S
noncomputable def execI (P : Program) (call : CallI) (N sz hi : Nat) : Nat → Code → Nat → IS → Option (IX × Nat × IS)
  | 0, _, _, _ => none
  | f + 1, .skip, c, S => some (.nrm, c, S)
  | f + 1, .exit i, c, S => some (.ext i, c, S)
  | f + 1, .ret, c, S => some (.rtn, c, S)
  | f + 1, .region _ ⟨ops⟩ draw, c, S => bif Nat.ble (c + ops.length * sz) hi then
      (match regI P call N sz c ops draw S with
      | some S' => some (.nrm, c + ops.length * sz, S')
      | none => none) else none
  | f + 1, .seq x y, c, S => match execI P call N sz hi f x c S with
    | some (.nrm, c', S') => execI P call N sz hi f y c' S'
    | r => r
  | f + 1, .cond o x y, c, S => match S.ev o with
    | .sc (.bool true) => execI P call N sz hi f x c S
    | .sc (.bool false) => execI P call N sz hi f y c S
    | _ => none
  | f + 1, .block i x, c, S => match execI P call N sz hi f x c S with
    | some (.ext j, c', S') => bif Nat.beq j i then some (.nrm, c', S') else some (.ext j, c', S')
    | r => r
  | f + 1, .loop x, c, S => match execI P call N sz hi f x c S with
    | some (.nrm, c', S') => execI P call N sz hi f (.loop x) c' S'
    | r => r
  | _ + 1, _, _, _ => none
def ExecOK (P : Program) (N c c' hi : Nat) (code : Code) (S S' : IS) (e : IX) : Prop :=
  ∀ I : Nat → Prop, c ≤ hi → (∀ n, c ≤ n → n < hi → ¬ I n) → SupS I S → c ≤ c' ∧ c' ≤ hi ∧ SupS (Plus I c (c' - c)) S' ∧
    ∀ ρ (S0 : St), DS ρ S (look S0.t) S0.h → ∀ Q : Exit → St → Prop, (∀ ρ' S1, Agr c (c' - c) ρ ρ' → DS ρ' S' (look S1.t) S1.h → Q e.exit S1) → SW P N code Q S0
theorem ExecOK.join {I : Nat → Prop} {c c1 hi : Nat} (h : ∀ n, c ≤ n → n < hi → ¬ I n) (h1 : c ≤ c1) : ∀ n, c1 ≤ n → n < hi → ¬ Plus I c (c1 - c) n := fun n hn hlt hp => by
  rcases hp with hp | hp
  · exact h n (by omega) hlt hp
  · omega
theorem plus_join {I : Nat → Prop} {c c1 c2 : Nat} (h1 : c ≤ c1) (h2 : c1 ≤ c2) : ∀ n, Plus (Plus I c (c1 - c)) c1 (c2 - c1) n → Plus I c (c2 - c) n := fun n hp => by
  rcases hp with (hp | hp) | hp
  · exact .inl hp
  · exact .inr ⟨hp.1, by omega⟩
  · exact .inr ⟨by omega, by omega⟩
theorem agr_join {c c1 c2 : Nat} {ρ ρ1 ρ2 : Nat → Nat} (h1 : c ≤ c1) (h2 : c1 ≤ c2) (a1 : Agr c (c1 - c) ρ ρ1) (a2 : Agr c1 (c2 - c1) ρ1 ρ2) : Agr c (c2 - c) ρ ρ2 := fun n hn => by
  rw [a2 n (fun x => hn ⟨by omega, by omega⟩), a1 n (fun x => hn ⟨x.1, by omega⟩)]
theorem supS_start {I : Nat → Prop} {c0 sz n : Nat} {S : IS} (H : SupS I S) : NodeOK I c0 sz n (Array.replicate n false, S) := ⟨by simp, H.mono fun m hm => .inl hm⟩
theorem regI_ok {call : CallI} {sz : Nat} (hm : P.follows .mixedOrders = true) (hcall : CallOK P call sz) (hz : 0 < sz) {c0 id : Nat} {ops : List Oper} {draw : Bool} {S S' : IS} (h : regI P call N sz c0 ops draw S = some S') {I : Nat → Prop} (hI : Out I c0 (ops.length * sz)) (H : SupS I S) :
    SupS (Plus I c0 (ops.length * sz)) S' ∧ ∀ ρ (S0 : St), DS ρ S (look S0.t) S0.h → ∀ Q : Exit → St → Prop, (∀ ρ' S1, Agr c0 (ops.length * sz) ρ ρ' → DS ρ' S' (look S1.t) S1.h → Q .normal S1) → SW P N (.region id ops.toArray draw) Q S0 := by
  unfold regI at h
  cases draw with
  | false =>
    simp only [cond_false] at h
    obtain ⟨s1, r1⟩ := seqI_ok hcall hz ops c0 S S' I h hI H
    refine ⟨s1, fun ρ S0 Dd Q hQ => SW.regionE ?_⟩
    have := (r1 ρ).1 S0 Dd (fun T h => ∃ ρ', Agr c0 (ops.length * sz) ρ ρ' ∧ DS ρ' S' T h) (fun ρ' T' h' a d => ⟨ρ', a, d⟩)
    exact vcE_mono _ _ _ _ (fun S1 ⟨ρ', a, d⟩ => hQ ρ' S1 a d) this
  | true =>
    simp only [cond_true] at h
    cases hl : lexOkX ops with
    | true =>
      rw [hl] at h
      simp only [cond_true] at h
      obtain ⟨s1, r1⟩ := seqI_ok hcall hz ops c0 S S' I h hI H
      refine ⟨s1, fun ρ S0 Dd Q hQ => regionX_sound hm ?_⟩
      refine anyX_lex ops 0 _ _ _ (by simp) hl ((r1 ρ).2 _ _ Dd _ fun ρ' T' h' a d S1 e1 e2 => ?_)
      subst e1 e2
      exact hQ ρ' S1 a d
    | false =>
      rw [hl] at h
      simp only [cond_false] at h
      obtain ⟨s1, r1⟩ := explore_ok hcall hz hI _ _ _ h (fun nd hnd => by rw [List.mem_singleton.1 hnd]; exact supS_start H)
      refine ⟨s1 (by simp), fun ρ S0 Dd Q hQ => regionX_sound hm ?_⟩
      refine r1 _ List.mem_cons_self ρ _ _ Dd _ fun ρ' T' h' a d S1 e1 e2 => ?_
      subst e1 e2
      exact hQ ρ' S1 a d
theorem execI_ok {call : CallI} {sz hi : Nat} (hm : P.follows .mixedOrders = true) (hcall : CallOK P call sz) (hz : 0 < sz) : ∀ (f : Nat) (code : Code) (c : Nat) (S : IS) (e : IX) (c' : Nat) (S' : IS),
    execI P call N sz hi f code c S = some (e, c', S') → ExecOK P N c c' hi code S S' e := by
  intro f
  induction f with
  | zero => intro code c S e c' S' h; cases h
  | succ f ih =>
    intro code c S e c' S' h
    have stay : ∀ (code : Code) (e : IX), (∀ (Q : Exit → St → Prop) (S0 : St), Q e.exit S0 → SW P N code Q S0) → ExecOK P N c c hi code S S e := fun code e hq I hc hI H =>
      ⟨Nat.le_refl _, hc, H.mono plus_l, fun ρ S0 Dd Q hQ => hq Q S0 (hQ ρ S0 (.refl _ _ _) Dd)⟩
    cases code with
    | skip => cases h; exact stay _ _ fun Q S0 h => SW.skip h
    | exit i => cases h; exact stay _ _ fun Q S0 h => SW.exit h
    | ret => cases h; exact stay _ _ fun Q S0 h => SW.ret h
    | region id ops draw =>
      obtain ⟨ops⟩ := ops
      simp only [execI] at h
      cases hb : Nat.ble (c + ops.length * sz) hi with
      | false => rw [hb] at h; cases h
      | true =>
        rw [hb] at h
        simp only [cond_true] at h
        rw [Nat.ble_eq] at hb
        split at h
        · rename_i S1 hr
          cases h
          intro I hc hI H
          obtain ⟨s1, r1⟩ := regI_ok (id := id) hm hcall hz hr (fun n h1 h2 => hI n h1 (by omega)) H
          have ec : c + ops.length * sz - c = ops.length * sz := by omega
          refine ⟨by omega, hb, by rw [ec]; exact s1, fun ρ S0 Dd Q hQ => r1 ρ S0 Dd Q fun ρ' S2 a d => hQ ρ' S2 (by rw [ec]; exact a) d⟩
        · cases h
    | seq x y =>
      simp only [execI] at h
      split at h
      · rename_i c1 S1 h1
        intro I hc hI H
        obtain ⟨a1, a2, a3, a4⟩ := ih _ _ _ _ _ _ h1 I hc hI H
        obtain ⟨b1, b2, b3, b4⟩ := ih _ _ _ _ _ _ h _ a2 (ExecOK.join hI a1) a3
        refine ⟨by omega, b2, b3.mono (plus_join a1 b1), fun ρ S0 Dd Q hQ => SW.seq (a4 ρ S0 Dd _ fun ρ1 S2 g1 d1 => ?_)⟩
        exact b4 ρ1 S2 d1 Q fun ρ2 S3 g2 d2 => hQ ρ2 S3 (agr_join a1 b1 g1 g2) d2
      · rename_i hne
        intro I hc hI H
        obtain ⟨a1, a2, a3, a4⟩ := ih _ _ _ _ _ _ h I hc hI H
        refine ⟨a1, a2, a3, fun ρ S0 Dd Q hQ => SW.seq (a4 ρ S0 Dd _ fun ρ1 S2 g1 d1 => ?_)⟩
        cases e with
        | nrm => exact absurd h (hne _ _)
        | ext i => exact hQ ρ1 S2 g1 d1
        | rtn => exact hQ ρ1 S2 g1 d1
    | cond o x y =>
      simp only [execI] at h
      split at h
      · rename_i ho
        intro I hc hI H
        obtain ⟨a1, a2, a3, a4⟩ := ih _ _ _ _ _ _ h I hc hI H
        refine ⟨a1, a2, a3, fun ρ S0 Dd Q hQ => SW.cond ?_⟩
        rw [ev_look, Dd.ev o, ho]
        exact a4 ρ S0 Dd Q hQ
      · rename_i ho
        intro I hc hI H
        obtain ⟨a1, a2, a3, a4⟩ := ih _ _ _ _ _ _ h I hc hI H
        refine ⟨a1, a2, a3, fun ρ S0 Dd Q hQ => SW.cond ?_⟩
        rw [ev_look, Dd.ev o, ho]
        exact a4 ρ S0 Dd Q hQ
      · cases h
    | block i x =>
      simp only [execI] at h
      split at h
      · rename_i j c1 S1 h1
        intro I hc hI H
        obtain ⟨a1, a2, a3, a4⟩ := ih _ _ _ _ _ _ h1 I hc hI H
        cases hb : Nat.beq j i with
        | true =>
          rw [hb] at h
          cases h
          exact ⟨a1, a2, a3, fun ρ S0 Dd Q hQ => SW.block (a4 ρ S0 Dd _ fun ρ1 S2 g1 d1 => by simp only [IX.exit, inB, hb, cond_true]; exact hQ ρ1 S2 g1 d1)⟩
        | false =>
          rw [hb] at h
          cases h
          exact ⟨a1, a2, a3, fun ρ S0 Dd Q hQ => SW.block (a4 ρ S0 Dd _ fun ρ1 S2 g1 d1 => by simp only [IX.exit, inB, hb, cond_false]; exact hQ ρ1 S2 g1 d1)⟩
      · rename_i hne
        intro I hc hI H
        obtain ⟨a1, a2, a3, a4⟩ := ih _ _ _ _ _ _ h I hc hI H
        refine ⟨a1, a2, a3, fun ρ S0 Dd Q hQ => SW.block (a4 ρ S0 Dd _ fun ρ1 S2 g1 d1 => ?_)⟩
        cases e with
        | nrm => exact hQ ρ1 S2 g1 d1
        | ext j => exact absurd h (hne _ _ _)
        | rtn => exact hQ ρ1 S2 g1 d1
    | loop x =>
      intro I hc hI H
      have key : ∀ (f : Nat), (∀ (code : Code) (c : Nat) (S : IS) (e : IX) (c' : Nat) (S' : IS), execI P call N sz hi f code c S = some (e, c', S') → ExecOK P N c c' hi code S S' e) → execI P call N sz hi (f + 1) (.loop x) c S = some (e, c', S') →
          c ≤ c' ∧ c' ≤ hi ∧ SupS (Plus I c (c' - c)) S' := fun f ih h => by
        simp only [execI] at h
        split at h
        · rename_i c1 S1 h1
          obtain ⟨a1, a2, a3, a4⟩ := ih _ _ _ _ _ _ h1 I hc hI H
          obtain ⟨b1, b2, b3, b4⟩ := ih _ _ _ _ _ _ h _ a2 (ExecOK.join hI a1) a3
          exact ⟨by omega, b2, b3.mono (plus_join a1 b1)⟩
        · obtain ⟨a1, a2, a3, a4⟩ := ih _ _ _ _ _ _ h I hc hI H
          exact ⟨a1, a2, a3⟩
      obtain ⟨k1, k2, k3⟩ := key f ih h
      refine ⟨k1, k2, k3, fun ρ S0 Dd Q hQ => ?_⟩
      refine SW.loop (fun n S1 => n ≤ f + 1 ∧ ∃ c1 T1 ρ1, c ≤ c1 ∧ c1 ≤ c' ∧ execI P call N sz hi n (.loop x) c1 T1 = some (e, c', S') ∧ SupS (Plus I c (c1 - c)) T1 ∧ Agr c (c1 - c) ρ ρ1 ∧ DS ρ1 T1 (look S1.t) S1.h) (f + 1)
        ⟨Nat.le_refl _, c, S, ρ, Nat.le_refl _, k1, h, H.mono plus_l, .refl _ _ _, Dd⟩ fun n S1 ⟨hn, c1, T1, ρ1, p1, p2, hx, hsup, ha, hd⟩ => ?_
      cases n with
      | zero => cases hx
      | succ n =>
        have ihn : ∀ (code : Code) (c : Nat) (S : IS) (e : IX) (c' : Nat) (S' : IS), execI P call N sz hi n code c S = some (e, c', S') → ExecOK P N c c' hi code S S' e := fun code c S e c' S' hh => by
          have mono : ∀ (n : Nat) (code : Code) (c : Nat) (S : IS) (r : IX × Nat × IS), execI P call N sz hi n code c S = some r → execI P call N sz hi (n + 1) code c S = some r := by
            intro n
            induction n with
            | zero => intro code c S r h; cases h
            | succ n ihm =>
              intro code c S r h
              cases code with
              | seq x y =>
                simp only [execI] at h
                rw [execI]
                split at h
                · rename_i c1 S1 h1; rw [ihm _ _ _ _ h1]; exact ihm _ _ _ _ h
                · rename_i hne
                  rw [ihm _ _ _ _ h]
                  obtain ⟨e, c1, S1⟩ := r
                  cases e with
                  | nrm => exact absurd h (hne _ _)
                  | _ => rfl
              | cond o x y =>
                simp only [execI] at h
                rw [execI]
                split at h
                · rename_i ho; first | exact ihm _ _ _ _ h | (rw [ho]; exact ihm _ _ _ _ h)
                · rename_i ho; first | exact ihm _ _ _ _ h | (rw [ho]; exact ihm _ _ _ _ h)
                · cases h
              | block i x =>
                simp only [execI] at h
                rw [execI]
                split at h
                · rename_i j c1 S1 h1; rw [ihm _ _ _ _ h1]; exact h
                · rename_i hne
                  rw [ihm _ _ _ _ h]
                  obtain ⟨e, c1, S1⟩ := r
                  cases e with
                  | ext j => exact absurd h (hne _ _ _)
                  | _ => rfl
              | loop x =>
                simp only [execI] at h
                rw [execI]
                split at h
                · rename_i c1 S1 h1; rw [ihm _ _ _ _ h1]; exact ihm _ _ _ _ h
                · rename_i hne
                  rw [ihm _ _ _ _ h]
                  obtain ⟨e, c1, S1⟩ := r
                  cases e with
                  | nrm => exact absurd h (hne _ _)
                  | _ => rfl
              | region id ops draw => simpa only [execI] using h
              | _ => first | (simpa only [execI] using h) | (simp only [execI] at h; cases h)
          have up : ∀ (m : Nat) (r : IX × Nat × IS), execI P call N sz hi n code c S = some r → execI P call N sz hi (n + m) code c S = some r := by
            intro m
            induction m with
            | zero => exact fun r h => h
            | succ m ihm => exact fun r h => mono _ _ _ _ _ (ihm r h)
          have := up (f - n) _ hh
          rw [show n + (f - n) = f by omega] at this
          exact ih _ _ _ _ _ _ this
        simp only [execI] at hx
        have hI1 := ExecOK.join (c1 := c1) hI p1
        split at hx
        · rename_i c2 S2 h1
          obtain ⟨a1, a2, a3, a4⟩ := ihn _ _ _ _ _ _ h1 _ (by omega) hI1 hsup
          obtain ⟨b1, b2, b3, b4⟩ := ihn _ _ _ _ _ _ hx _ a2 (ExecOK.join hI1 a1) a3
          refine a4 ρ1 S1 hd _ fun ρ2 S3 g2 d2 => ?_
          exact ⟨n, S3, by omega, .refl _, by omega, c2, S2, ρ2, by omega, b1, hx, a3.mono (plus_join p1 a1), agr_join p1 a1 ha g2, d2⟩
        · rename_i hne
          obtain ⟨a1, a2, a3, a4⟩ := ihn _ _ _ _ _ _ hx _ (by omega) hI1 hsup
          refine a4 ρ1 S1 hd _ fun ρ2 S3 g2 d2 => ?_
          cases e with
          | nrm => exact absurd hx (hne _ _)
          | ext i => exact hQ ρ2 S3 (agr_join p1 a1 ha g2) d2
          | rtn => exact hQ ρ2 S3 (agr_join p1 a1 ha g2) d2
    | _ => simp only [execI] at h; cases h
/-! ### calls -/
noncomputable def resI (P : Program) (S : IS) : List ResultVar → Option (List IV)
  | [] => some []
  | .tmp t :: r => match resI P S r with
    | some l => some (S.get t :: l)
    | none => none
  | .cell x t :: r => match loadIV (tk P t) (S.get x) S.h with
    | .ok v => match resI P S r with
      | some l => some (v :: l)
      | none => none
    | _ => none
def tupI : List IV → IV
  | [v] => v
  | vs => .tup vs
def szI (d : Nat) : Nat := 1099511627791 ^ d
theorem szI_pos (d : Nat) : 0 < szI d := Nat.pow_pos (by decide)
def scL : List IV → Option (List Value)
  | [] => some []
  | .sc v :: r => match scL r with
    | some l => some (v :: l)
    | none => none
  | _ :: _ => none
theorem scL_spec : ∀ {l : List IV} {vs : List Value}, scL l = some vs → l = vs.map .sc
  | [], vs, h => by cases h; rfl
  | x :: r, vs, h => by
    cases x with
    | sc v =>
      simp only [scL] at h
      split at h
      · rename_i l hl
        cases h
        rw [scL_spec hl]; rfl
      · cases h
    | _ => cases h
abbrev PrI := FuncId → Option (List Value → Option Value)
def prI (pr : PrI) (g : FuncId) (args : List IV) : Option Value := match pr g with
  | none => none
  | some f => match scL args with
    | some vs => f vs
    | none => none
def PrOK (P : Program) (pr : PrI) : Prop := ∀ g f vs r, pr g = some f → f vs = some r → PCall P g (vs.map .sc) (.sc r)
/-! what a call leaves behind and nobody holds is forgotten -/
mutual
def refsI : IV → List Nat → List Nat
  | .os b _ _ _, l => b :: l
  | .op b _, l => b :: l
  | .mp b, l => b :: l
  | .agg cs, l => refsL cs l
  | .tup cs, l => refsL cs l
  | .fn _ a c, l => refsL a (refsL c l)
  | _, l => l
def refsL : List IV → List Nat → List Nat
  | [], l => l
  | x :: r, l => refsI x (refsL r l)
end
def newN (lo hi n : Nat) : Bool := Nat.ble lo n && Nat.blt n hi
def rootsI (lo hi : Nat) : IHeap → List Nat → List Nat
  | [], l => l
  | (b, k) :: r, l => bif newN lo hi b then rootsI lo hi r l else refsL k (rootsI lo hi r l)
def markI : Nat → List Nat → IHeap → List Nat → List Nat
  | 0, _, _, kept => kept
  | _ + 1, [], _, kept => kept
  | f + 1, b :: r, new, kept => match ifind new b with
    | none => markI f r new kept
    | some k => markI f (refsL k r) (idel new b) (b :: kept)
def keptI (lo hi : Nat) (kept : List Nat) (x : Nat × List IV) : Bool := bif newN lo hi x.1 then kept.any (Nat.beq x.1) else true
def gcI (lo hi : Nat) (r : IV) (h : IHeap) : IHeap := match h.filter (fun x => newN lo hi x.1) with
  | [] => h
  | new => h.filter (keptI lo hi (markI 100000 (refsI r (rootsI lo hi h [])) new []))
def gcC (sz : Nat) (call : CallI) : CallI := fun nm g args h => match call nm g args h with
  | some (r, h') => some (r, gcI nm (nm + sz) r h')
  | none => none
theorem gcI_sub (lo hi : Nat) (r : IV) (h : IHeap) : List.Sublist (gcI lo hi r h) h := by
  unfold gcI
  split
  · exact List.Sublist.refl _
  · exact List.filter_sublist
theorem HD.less {ρ : Nat → Nat} {ih ih' : IHeap} {h : Heap} (H : HD ρ ih h) (hs : List.Sublist ih' ih) : ∃ h' : Heap, List.Sublist h' h ∧ HD ρ ih' h' := by
  have find_filter : ∀ (p : Nat × Blk → Bool) (h : Heap) (b : Nat) (k : Blk), (∀ k, p (b, k) = true) → h.find b = some k → Heap.find (h.filter p) b = some k := fun p h b k hp hf => by
    induction h with
    | nil => cases hf
    | cons y r ih =>
      obtain ⟨c, k'⟩ := y
      rw [find_cons] at hf
      by_cases hc : c = b
      · subst hc
        rw [if_pos rfl] at hf
        rw [List.filter_cons, if_pos (hp k'), find_cons, if_pos rfl, hf]
      · rw [if_neg hc] at hf
        rw [List.filter_cons]
        split
        · rw [find_cons, if_neg hc]; exact ih hf
        · exact ih hf
  refine ⟨h.filter fun x => ih'.any fun y => Nat.beq (ρ y.1) x.1, List.filter_sublist, ?_, ?_, ?_, ?_, ?_⟩
  · exact List.Nodup.sublist (List.Sublist.map _ List.filter_sublist) H.nd
  · exact List.Nodup.sublist (List.Sublist.map _ hs) H.ind
  · exact fun x hx y hy e => H.inj x (hs.subset hx) y (hs.subset hy) e
  · intro b hb
    obtain ⟨k, hk⟩ := hb
    rw [List.mem_filter] at hk
    obtain ⟨x, hx, e⟩ := List.any_eq_true.1 hk.2
    rw [Nat.beq_eq] at e
    exact ⟨x, hx, e⟩
  · intro x hx
    obtain ⟨k, h1, h2⟩ := H.find x (hs.subset hx)
    exact ⟨k, find_filter _ _ _ _ (fun k => List.any_eq_true.2 ⟨x, hx, by rw [Nat.beq_eq]⟩) h1, h2⟩
theorem Call.shrink {P : Program} {f : FuncId} {args : List SV} {h : Heap} {Q Q' : SV → Heap → Prop} (hc : Call P f args h Q) (hq : ∀ r h', Q r h' → ∃ h'', List.Sublist h'' h' ∧ Q' r h'') : Call P f args h Q' where
  out M w vs own hr := (hc.out M w vs own hr).mono fun e w' ⟨v, r, h', h1, h2, h3, h4, h5, h6⟩ => by
    obtain ⟨h'', hs, hq'⟩ := hq r h' h2
    have he : (envOf (hid M h') w').le (envOf (hid M h'') w') := ⟨fun a u x => ⟨fun y => x.1 (y.imp id fun z => z.elim fun k hk => ⟨k, hs.subset hk⟩), x.2⟩, fun b m x => x⟩
    refine ⟨v, r, h'', h1, hq', h3.mono he, h4.sub (List.Nodup.sublist (hs.map _) h4.nodup) (fun x hx => hs.subset hx), h5, fun b ⟨k, hk⟩ hb => h6 b ⟨k, hs.subset hk⟩ hb⟩
theorem gcC_ok {P : Program} {call : CallI} {sz : Nat} (hc : CallOK P call sz) : CallOK P (gcC sz call) sz := fun nm g args h r h' he I hI ha H => by
  unfold gcC at he
  split at he
  · rename_i r0 h0 hx
    cases he
    obtain ⟨a1, a2, a3⟩ := hc nm g args h _ _ hx I hI ha H
    have hsub := gcI_sub nm (nm + sz) r h0
    refine ⟨a1, ⟨fun i => .any _, fun x hx => a2.n x (hsub.subset hx), fun x hx => a2.h x (hsub.subset hx)⟩, fun ρ HH hd => Call.shrink (a3 ρ HH hd) fun R H' ⟨ρ', g1, g2, g3⟩ => ?_⟩
    obtain ⟨h'', s1, s2⟩ := g3.less hsub
    exact ⟨h'', s1, ρ', g1, g2, s2⟩
  · cases he
noncomputable def runI (P : Program) (pr : PrI) (fuel : Nat) : Nat → CallI
  | 0, _, _, _, _ => none
  | d + 1, lo, g, args, h => match prI pr g args with
   | some r => some (.sc r, h)
   | none => match P.funcs[g]? with
    | none => none
    | some fn => match fn.body with
      | none => none
      | some code => bif fn.name == "runtime.NumGoroutine" then none else bif Nat.ble args.length fn.ntmps then
        (match execI P (gcC (szI d) (runI P pr fuel d)) fn.ntmps (szI d) (lo + szI (d + 1)) fuel code lo ⟨TT.args args 0 .nil, h⟩ with
        | some (.nrm, _, S') => match resI P S' fn.results.toList with
          | some vs => some (tupI vs, S'.h)
          | none => none
        | some (.rtn, _, S') => match resI P S' fn.results.toList with
          | some vs => some (tupI vs, S'.h)
          | none => none
        | _ => none) else none
theorem resI_ok {S : IS} : ∀ (rs : List ResultVar) (vs : List IV), resI P S rs = some vs → (∀ I, SupS I S → ∀ v ∈ vs, SupV I v) ∧
    ∀ ρ (S0 : St), DS ρ S (look S0.t) S0.h → ∀ K : List SV → Prop, K (vs.map (IV.den ρ)) → resL P S0 rs K
  | [], vs, h => by cases h; exact ⟨fun I H v hv => (by cases hv), fun ρ S0 Dd K hK => hK⟩
  | .tmp t :: r, vs, h => by
    simp only [resI] at h
    split at h
    · rename_i l hl
      cases h
      obtain ⟨i1, i2⟩ := resI_ok r l hl
      refine ⟨fun I H v hv => ?_, fun ρ S0 Dd K hK => ?_⟩
      · rcases List.mem_cons.1 hv with rfl | hv
        · exact H.t t
        · exact i1 I H v hv
      · rw [resL_tmp]
        refine i2 ρ S0 Dd _ ?_
        rw [Dd.t t]
        exact hK
    · cases h
  | .cell x t :: r, vs, h => by
    simp only [resI] at h
    split at h
    · rename_i v hv
      split at h
      · rename_i l hl
        cases h
        obtain ⟨i1, i2⟩ := resI_ok r l hl
        have hval : valI P (.load t (.tmp x)) S.ev S.h = .ok v := hv
        refine ⟨fun I H u hu => ?_, fun ρ S0 Dd K hK => ?_⟩
        · rcases List.mem_cons.1 hu with rfl | hu
          · have := valI_sup (P := P) (op := .load t (.tmp x)) H
            rw [hval] at this
            exact this
          · exact i1 I H u hu
        · have := valI_ok (P := P) (op := .load t (.tmp x)) (ε := S.ev) (e := evF (look S0.t)) Dd.ev Dd.hd
          rw [hval] at this
          obtain ⟨pre, h1, h2⟩ := this
          exact resL_cell h1 h2 (i2 ρ S0 Dd _ hK)
      · cases h
    · cases h
theorem tupI_den (ρ : Nat → Nat) (vs : List IV) : tupOf (vs.map (IV.den ρ)) = (tupI vs).den ρ := by
  match vs with
  | [] => rfl
  | [v] => rfl
  | u :: v :: r => simp only [tupI, IV.den, IV.denL_map]; rfl
theorem runI_ok (hm : P.follows .mixedOrders = true) {pr : PrI} (hpr : PrOK P pr) (fuel : Nat) : ∀ d, CallOK P (runI P pr fuel d) (szI d)
  | 0 => fun lo g args h r h' hc => by cases hc
  | d + 1 => fun lo g args h r h' hc I hI hargs H => by
    have ih := gcC_ok (runI_ok hm hpr fuel d)
    simp only [runI] at hc
    split at hc
    · rename_i rv hrv
      cases hc
      refine ⟨.sc _ _, H.mono plus_l, fun ρ HH hd => ?_⟩
      unfold prI at hrv
      split at hrv
      · cases hrv
      · rename_i f hf
        split at hrv
        · rename_i vs hvs
          rw [scL_spec hvs, map_sc_den]
          exact Call.of_pure (hpr _ _ _ _ hf hrv) ⟨ρ, .refl _ _ _, rfl, hd⟩
        · cases hrv
    split at hc
    · cases hc
    · rename_i fn hfn
      split at hc
      · cases hc
      · rename_i code hcode
        cases hname : fn.name == "runtime.NumGoroutine" with
        | true => rw [hname] at hc; cases hc
        | false =>
          rw [hname] at hc
          simp only [cond_false] at hc
          cases hlen : Nat.ble args.length fn.ntmps with
          | false => rw [hlen] at hc; cases hc
          | true =>
            rw [hlen] at hc
            simp only [cond_true] at hc
            have getA : ∀ i, (TT.args args 0 .nil).get i = args.getD i .any := fun i => by
              rw [TT.get_args]
              split
              · rw [Nat.sub_zero]
              · rw [List.getD_eq_getElem?_getD, List.getElem?_eq_none (by omega)]; rfl
            have H0 : SupS I ⟨TT.args args 0 .nil, h⟩ := ⟨fun i => by show SupV I ((TT.args args 0 .nil).get i); rw [getA]; exact SupV.getD hargs i, H.n, H.h⟩
            have D0 : ∀ ρ HH, HD ρ h HH → DS ρ ⟨TT.args args 0 .nil, h⟩ (look (⟨argT 0 (args.map (IV.den ρ)), HH⟩ : St).t) HH := fun ρ HH hd => ⟨fun i => by
              show look (argT 0 _) i = _
              rw [look_argT _ 0 i (Nat.zero_le _), Nat.sub_zero, den_getD]
              show _ = ((TT.args args 0 .nil).get i).den ρ
              rw [getA], hd⟩
            have main : ∀ (e : IX) (c' : Nat) (S' : IS) (vs : List IV), (e = .nrm ∨ e = .rtn) → execI P (gcC (szI d) (runI P pr fuel d)) fn.ntmps (szI d) (lo + szI (d + 1)) fuel code lo ⟨TT.args args 0 .nil, h⟩ = some (e, c', S') →
                resI P S' fn.results.toList = some vs → SupV (Plus I lo (szI (d + 1))) (tupI vs) ∧ SupS (Plus I lo (szI (d + 1))) ⟨.nil, S'.h⟩ ∧
                ∀ ρ HH, HD ρ h HH → Call P g (args.map (IV.den ρ)) HH (fun R H' => ∃ ρ', Agr lo (szI (d + 1)) ρ ρ' ∧ R = (tupI vs).den ρ' ∧ HD ρ' S'.h H') := fun e c' S' vs he hx hvs => by
              obtain ⟨a1, a2, a3, a4⟩ := execI_ok hm ih (szI_pos _) _ _ _ _ _ _ _ hx I (Nat.le_add_right _ _) hI H0
              obtain ⟨v1, v2⟩ := resI_ok _ _ hvs
              have wid : ∀ n, Plus I lo (c' - lo) n → Plus I lo (szI (d + 1)) n := fun n hn => hn.imp id fun x => ⟨x.1, by omega⟩
              have s1 := a3.mono wid
              have hv := v1 _ s1
              refine ⟨?_, ⟨fun i => .any _, s1.n, s1.h⟩, fun ρ HH hd => ?_⟩
              · intro ρ ρ' ee
                rw [← tupI_den, ← tupI_den, map_den_eq hv ee]
              · refine Call.enter hfn hcode hname (by rw [List.length_map]; exact Nat.le_of_ble_eq_true hlen) (a4 ρ _ (D0 ρ HH hd) _ fun ρ' S1 g1 d1 => ?_)
                have fin : ∃ S2, S1.le S2 ∧ resL P S2 fn.results.toList (fun vs' => ∃ ρ', Agr lo (szI (d + 1)) ρ ρ' ∧ tupOf vs' = (tupI vs).den ρ' ∧ HD ρ' S'.h S2.h) := by
                  refine ⟨S1, .refl _, v2 ρ' S1 d1 _ ⟨ρ', fun n hn => g1 n (fun x => hn ⟨x.1, by omega⟩), tupI_den _ _, d1.hd⟩⟩
                rcases he with rfl | rfl
                · exact fin
                · exact fin
            split at hc
            · rename_i c' S' hx
              split at hc
              · rename_i vs hvs
                cases hc
                exact main _ _ _ _ (.inl rfl) hx hvs
              · cases hc
            · rename_i c' S' hx
              split at hc
              · rename_i vs hvs
                cases hc
                exact main _ _ _ _ (.inr rfl) hx hvs
              · cases hc
            · cases hc
noncomputable def readsI (P : Program) (pr : PrI) (fuel d : Nat) (g : FuncId) (args : List Value) (b : Bool) : Bool := match runI P pr fuel d 0 g (args.map .sc) [] with
  | some (.sc (.bool c), _) => c == b
  | _ => false
theorem pcall_of_reads (hm : P.follows .mixedOrders = true) {pr : PrI} (hpr : PrOK P pr) {fuel d : Nat} {g : FuncId} {args : List Value} {b : Bool} (h : readsI P pr fuel d g args b = true) : PCall P g (args.map .sc) (.sc (.bool b)) := by
  unfold readsI at h
  split at h
  · rename_i c h' hr
    rw [beq_iff_eq] at h
    subst h
    obtain ⟨_, _, hc⟩ := runI_ok hm hpr fuel d _ _ _ _ _ _ hr (fun _ => False) (fun n _ _ x => x) (fun v hv => by obtain ⟨x, _, rfl⟩ := List.mem_map.1 hv; exact .sc _ _) ⟨fun i => .any _, fun x hx => (by cases hx), fun x hx => (by cases hx)⟩
    have := hc id [] (hd_nil id)
    rw [map_sc_den] at this
    refine ⟨fun M w vs own hr => (this.out M w vs own hr).mono fun e w' ⟨v, r, h'', h1, ⟨ρ', _, h2, _⟩, h3, h4, h5, h6⟩ => ?_⟩
    subst h2
    cases h3
    exact ⟨_, _, [], h1, ⟨rfl, rfl⟩, .sc _, h4.sub (by simp) (fun x hx => (by cases hx)), h5, fun b ⟨k, hk⟩ => by cases hk⟩
  · cases h
end
end Go.Ab
/-! Ba: The same reading, each value worked out as soon as it is there. -/
namespace Go.Ab
open Go.RowKit
variable [Gl]
section
variable {α : Type}
def natK (m : Nat) (k : Nat → α) : α := match m with
  | 0 => k 0
  | n + 1 => k (n + 1)
theorem natK_eq (m : Nat) (k : Nat → α) : natK m k = k m := by cases m <;> rfl
def intK (m : Int) (k : Int → α) : α := match m with
  | .ofNat n => natK n fun n => k (.ofNat n)
  | .negSucc n => natK n fun n => k (.negSucc n)
theorem intK_eq (m : Int) (k : Int → α) : intK m k = k m := by cases m <;> simp [intK, natK_eq]
def boolK (b : Bool) (k : Bool → α) : α := match b with
  | true => k true
  | false => k false
theorem boolK_eq (b : Bool) (k : Bool → α) : boolK b k = k b := by cases b <;> rfl
def kindK (b : IntKind) (k : IntKind → α) : α := match b with
  | .i8 => k .i8 | .i16 => k .i16 | .i32 => k .i32 | .i64 => k .i64 | .u8 => k .u8 | .u16 => k .u16 | .u32 => k .u32 | .u64 => k .u64
theorem kindK_eq (b : IntKind) (k : IntKind → α) : kindK b k = k b := by cases b <;> rfl
def u8K (b : UInt8) (k : UInt8 → α) : α := natK b.toNat fun n => k (UInt8.ofNat n)
theorem u8K_eq (b : UInt8) (k : UInt8 → α) : u8K b k = k b := by simp [u8K, natK_eq]
def bytesK (l : List UInt8) (k : List UInt8 → α) : α := match l with
  | [] => k []
  | b :: r => u8K b fun b => bytesK r fun r => k (b :: r)
theorem bytesK_eq : ∀ (l : List UInt8) (k : List UInt8 → α), bytesK l k = k l
  | [], k => rfl
  | b :: r, k => by rw [bytesK, u8K_eq, bytesK_eq r]
def stgK (s : ByteArray) (k : ByteArray → α) : α := match s with
  | ⟨⟨l⟩⟩ => bytesK l fun l => k ⟨⟨l⟩⟩
theorem stgK_eq (s : ByteArray) (k : ByteArray → α) : stgK s k = k s := by obtain ⟨⟨l⟩⟩ := s; simp [stgK, bytesK_eq]
def valK (v : Value) (k : Value → α) : α := match v with
  | .int t n => kindK t fun t => intK n fun n => k (.int t n)
  | .bool b => boolK b fun b => k (.bool b)
  | .string s => stgK s fun s => k (.string s)
  | .slice none 0 0 => k (.slice none 0 0)
  | v => k v
theorem valK_eq (v : Value) (k : Value → α) : valK v k = k v := by
  unfold valK
  split <;> simp [kindK_eq, intK_eq, boolK_eq, stgK_eq]
def entK : List (Value × Value) → (List (Value × Value) → α) → α
  | [], k => k []
  | (a, v) :: r, k => valK a fun a => valK v fun v => entK r fun r => k ((a, v) :: r)
theorem entK_eq : ∀ (l : List (Value × Value)) (k : List (Value × Value) → α), entK l k = k l
  | [], k => rfl
  | (a, v) :: r, k => by simp only [entK, valK_eq, entK_eq r]
mutual
def ivK : IV → (IV → α) → α
  | .any, k => k .any
  | .sc v, k => valK v fun v => k (.sc v)
  | .agg cs, k => ivLK cs fun cs => k (.agg cs)
  | .tup cs, k => ivLK cs fun cs => k (.tup cs)
  | .os b o l s, k => natK b fun b => natK o fun o => natK l fun l => natK s fun s => k (.os b o l s)
  | .op b o, k => natK b fun b => natK o fun o => k (.op b o)
  | .fn g a c, k => ivLK a fun a => ivLK c fun c => k (.fn g a c)
  | .gv g, k => natK g fun g => k (.gv g)
  | .mp b, k => natK b fun b => k (.mp b)
  | .mpv l, k => entK l fun l => k (.mpv l)
def ivLK : List IV → (List IV → α) → α
  | [], k => k []
  | x :: r, k => ivK x fun x => ivLK r fun r => k (x :: r)
end
mutual
theorem ivK_eq : ∀ (v : IV) (k : IV → α), ivK v k = k v
  | .any, k => rfl
  | .sc v, k => by rw [ivK, valK_eq]
  | .agg cs, k => by rw [ivK, ivLK_eq]
  | .tup cs, k => by rw [ivK, ivLK_eq]
  | .os b o l s, k => by simp only [ivK, natK_eq]
  | .op b o, k => by simp only [ivK, natK_eq]
  | .fn g a c, k => by rw [ivK, ivLK_eq, ivLK_eq]
  | .gv g, k => by rw [ivK, natK_eq]
  | .mp b, k => by rw [ivK, natK_eq]
  | .mpv l, k => by rw [ivK, entK_eq]
theorem ivLK_eq : ∀ (v : List IV) (k : List IV → α), ivLK v k = k v
  | [], k => rfl
  | x :: r, k => by rw [ivLK, ivK_eq, ivLK_eq]
end
def spineK {β : Type} (l : List β) (k : List β → α) : α := match l with
  | [] => k []
  | x :: r => spineK r fun r => k (x :: r)
theorem spineK_eq {β : Type} : ∀ (l : List β) (k : List β → α), spineK l k = k l
  | [], k => rfl
  | x :: r, k => by rw [spineK, spineK_eq]
noncomputable def TT.setK (t : TT) : Nat → IV → (TT → α) → α := TT.rec (motive := fun _ => Nat → IV → (TT → α) → α) (fun i v k => k (TT.one i i v))
  (fun x l r sl sr i v k => Nat.rec (motive := fun _ => α) (k (.node v l r)) (fun j _ => Bool.rec (motive := fun _ => α) (sr (Nat.div j 2) v fun r => k (.node x l r)) (sl (Nat.div j 2) v fun l => k (.node x l r)) (Nat.beq (Nat.mod j 2) 0)) i) t
theorem TT.setK_eq : ∀ (t : TT) (i : Nat) (v : IV) (k : TT → α), t.setK i v k = k (t.set i v) := by
  intro t
  induction t with
  | nil => intro i v k; rfl
  | node x l r ihl ihr =>
    intro i v k
    cases i with
    | zero => rfl
    | succ j =>
      rw [TT.set_succ]
      show Bool.rec (motive := fun _ => α) (r.setK (j / 2) v fun r => k (.node x l r)) (l.setK (j / 2) v fun l => k (.node x l r)) (Nat.beq (j % 2) 0) = _
      cases Nat.beq (j % 2) 0
      · exact ihr _ _ _
      · exact ihl _ _ _
def iupdK : IHeap → Nat → List IV → (IHeap → α) → α
  | [], _, _, k => k []
  | (c, x) :: r, b, y, k => bif Nat.beq c b then k ((c, y) :: r) else iupdK r b y fun r => k ((c, x) :: r)
theorem iupdK_eq : ∀ (h : IHeap) (b : Nat) (y : List IV) (k : IHeap → α), iupdK h b y k = k (iupd h b y)
  | [], _, _, k => rfl
  | (c, x) :: r, b, y, k => by
    simp only [iupdK, iupd, iupdK_eq]
    cases Nat.beq c b <;> rfl
def idelK : IHeap → Nat → (IHeap → α) → α
  | [], _, k => k []
  | (c, x) :: r, b, k => bif Nat.beq c b then idelK r b k else idelK r b fun r => k ((c, x) :: r)
theorem idelK_eq : ∀ (h : IHeap) (b : Nat) (k : IHeap → α), idelK h b k = k (idel h b)
  | [], _, k => rfl
  | (c, x) :: r, b, k => by
    simp only [idelK, idel, idelK_eq]
    cases Nat.beq c b <;> rfl
def iinsK : IHeap → Nat → List IV → (IHeap → α) → α
  | [], b, y, k => k [(b, y)]
  | (c, x) :: r, b, y, k => bif Nat.ble c b then k ((b, y) :: (c, x) :: r) else iinsK r b y fun r => k ((c, x) :: r)
theorem iinsK_eq : ∀ (h : IHeap) (b : Nat) (y : List IV) (k : IHeap → α), iinsK h b y k = k (iins h b y)
  | [], _, _, k => rfl
  | (c, x) :: r, b, y, k => by
    simp only [iinsK, iins, iinsK_eq]
    cases Nat.ble c b <;> rfl
end
noncomputable def putI (t : TT) (h : IHeap) (d : Option Tmp) (v : IV) : Option IS := match d with
  | some d => ivK v fun v => TT.setK t d v fun t => some ⟨t, h⟩
  | none => some ⟨t, h⟩
theorem putI_eq (t : TT) (h : IHeap) (d : Option Tmp) (v : IV) : putI t h d v = some ((⟨t, h⟩ : IS).put d v) := by
  cases d with
  | none => rfl
  | some d => simp only [putI, ivK_eq, TT.setK_eq]; rfl
noncomputable def newI (t : TT) (h : IHeap) (nm : Nat) (cs : List IV) (d : Option Tmp) (mk : Nat → IV) : Option IS :=
  ivLK cs fun cs => iinsK h nm cs fun h => putI t h d (mk nm)
theorem newI_eq (t : TT) (h : IHeap) (nm : Nat) (cs : List IV) (d : Option Tmp) (mk : Nat → IV) : newI t h nm cs d mk = some ((⟨t, iins h nm cs⟩ : IS).put d (mk nm)) := by
  simp only [newI, ivLK_eq, iinsK_eq, putI_eq]
noncomputable def appF (nm : Nat) (L : Option (TypeId × Nat × Nat)) (Z : Option (List Value)) (s x : IV) (dst : Option Tmp) (S : IS) : Option IS :=
  match L, Z with
  | some (_, size, bytes), some z => match srcI size x S.h with
    | some (n, cs) => bif cs.all isingle && Nat.beq z.length size && Nat.blt 0 size then
      (match s with
      | .sc (.slice none 0 0) => bif Nat.ble (n * bytes) 140737488355328 && Nat.ble n 140737488355328 then
          (match n with
          | 0 => putI S.t S.h dst (.sc (.slice none 0 0))
          | m + 1 => newI S.t S.h nm cs dst fun nm => .os nm 0 (m + 1) size)
          else none
      | .os b off len sz => match ifindC S.h b with
        | some k => bif Nat.beq off 0 && Nat.beq sz size && Nat.beq (len * sz) k.length && Nat.ble ((len + n) * bytes) 140737488355328 && Nat.ble (len + n) 140737488355328 then
            ivLK cs fun cs => spineK (k ++ cs) fun l => idelK S.h b fun h => iinsK h nm l fun h => putI S.t h dst (.os nm 0 (len + n) sz) else none
        | none => none
      | _ => none) else none
    | none => none
  | _, _ => none
theorem appF_eq (nm : Nat) (L : Option (TypeId × Nat × Nat)) (Z : Option (List Value)) (s x : IV) (dst : Option Tmp) (S : IS) : appF nm L Z s x dst S = appI nm L Z s x dst S := by
  obtain ⟨t, h⟩ := S
  unfold appF appI
  simp only [putI_eq, newI_eq, ivLK_eq, spineK_eq, idelK_eq, iinsK_eq]
  all_goals rfl
noncomputable def appZF (nm : Nat) (L : Option (TypeId × Nat × Nat)) (Z : Option (List Value)) (s x : IV) (dst : Option Tmp) (S : IS) : Option IS :=
  match L, Z, s, x with
  | some (_, size, bytes), some z, .sc (.slice none 0 0), .sc (.int .i64 (.ofNat n)) => bif Nat.beq z.length size && Nat.blt 0 size && Nat.blt 0 n && Nat.ble (n * bytes) 140737488355328 && Nat.ble n 140737488355328 then
      newI S.t S.h nm (izfill z n) dst fun nm => .os nm 0 n size else none
  | _, _, _, _ => none
theorem appZF_eq (nm : Nat) (L : Option (TypeId × Nat × Nat)) (Z : Option (List Value)) (s x : IV) (dst : Option Tmp) (S : IS) : appZF nm L Z s x dst S = appZI nm L Z s x dst S := by
  obtain ⟨t, h⟩ := S
  unfold appZF appZI
  simp only [newI_eq]
  all_goals rfl
def cutK {α : Type} (s : IV) (h : IHeap) (k : IHeap → α) : α := match s with
  | .os b _ len sz => match ifindC h b with
    | some c => bif Nat.blt (len * sz) c.length && (mapOf (c.take (len * sz))).isNone then spineK (c.take (len * sz)) fun c => iupdK h b c k else k h
    | none => k h
  | _ => k h
theorem cutK_eq {α : Type} (s : IV) (h : IHeap) (k : IHeap → α) : cutK s h k = k (cutI s h) := by
  unfold cutK cutI
  simp only [spineK_eq, iupdK_eq]
  cases s with
  | os b o len sz =>
    simp only
    cases ifindC h b with
    | none => rfl
    | some c =>
      simp only
      cases (Nat.blt (len * sz) c.length && (mapOf (c.take (len * sz))).isNone) <;> rfl
  | _ => rfl
noncomputable def mputF (T : Option (KK × Value)) (m k x : IV) (dst : Option Tmp) (S : IS) : Option IS := match T, m, k, x with
  | some (c, _), .mp b, .sc a, .sc v => match ifind S.h b with
    | some cs => match mapOf cs with
      | some l => bif kkOk c a then (match mfI c a l 0 with
        | some r => entK (mset a v l r) fun q => iupdK S.h b [.mpv q] fun h => putI S.t h dst .any
        | none => none) else none
      | none => none
    | none => none
  | _, _, _, _ => none
theorem mputF_eq (T : Option (KK × Value)) (m k x : IV) (dst : Option Tmp) (S : IS) : mputF T m k x dst S = mputI T m k x dst S := by
  obtain ⟨t, h⟩ := S
  unfold mputF mputI
  simp only [entK_eq, iupdK_eq, putI_eq]
  all_goals rfl
noncomputable def effF (P : Program) (call : CallI) (nm : Nat) (op : Op) (dst : Option Tmp) (S : IS) : Option IS :=
  match op with
  | .store t a v => match tk P t, S.ev a, icells (S.ev v) with
    | some (_, n), .op b off, some cs => match ifindC S.h b with
      | some k => bif Nat.beq cs.length n && Nat.ble (off + n) k.length then ivLK cs fun cs => spineK (isetAll k off cs) fun l => iupdK S.h b l fun h => putI S.t h dst .any else none
      | none => none
    | _, _, _ => none
  | .call ⟨.value f, args, _⟩ => match S.ev f with
    | .fn (.func g) first captured => ivLK (first ++ args.toList.map S.ev ++ captured) fun l => match call nm g l S.h with
      | some (r, h') => putI S.t h' dst r
      | none => none
    | _ => none
  | .call ⟨.builtin .append, ⟨[s, x]⟩, ⟨[st, xt]⟩⟩ => bif notInt P xt then cutK (S.ev s) S.h fun h => appF nm (slk P st) (elemZ P st) (S.ev s) (S.ev x) dst ⟨S.t, h⟩
      else bif (ik P xt).isSome then appZF nm (slk P st) (elemZ P st) (S.ev s) (S.ev x) dst S else none
  | .makeMap t r => bif isMp P t && hintI (r.map S.ev) then newI S.t S.h nm [.mpv []] dst .mp else none
  | .mapUpdate t m k x => mputF (mtk P t) (S.ev m) (S.ev k) (S.ev x) dst S
  | .insert t m k x => mputF (mtk P t) (S.ev m) (S.ev k) (S.ev x) dst S
  | _ => none
theorem effF_eq (P : Program) (call : CallI) (nm : Nat) (op : Op) (dst : Option Tmp) (S : IS) : effF P call nm op dst S = effI P call nm op dst S := by
  obtain ⟨t, h⟩ := S
  unfold effF effI
  split <;> simp only [putI_eq, ivLK_eq, spineK_eq, iupdK_eq, appF_eq, appZF_eq, cutK_eq, newI_eq, mputF_eq] <;> rfl
noncomputable def stepF (P : Program) (call : CallI) (N nm : Nat) (o : Oper) (S : IS) : Option IS :=
  bif dOk N o.dst then
    match valI P o.op S.ev S.h with
    | .ok v => putI S.t S.h o.dst v
    | .new cs mk => bif stX o.op || (mapOf cs).isSome then none else newI S.t S.h nm cs o.dst mk
    | .bad => effF P call nm o.op o.dst S
  else none
theorem stepF_eq (P : Program) (call : CallI) (N nm : Nat) (o : Oper) (S : IS) : stepF P call N nm o S = stepI P call N nm o S := by
  unfold stepF stepI
  simp only [putI_eq, newI_eq, effF_eq]
  all_goals rfl
noncomputable def skipF (N : Nat) (d : Option Tmp) (S : IS) : Option IS := bif dOk N d then putI S.t S.h d (.sc undef) else none
theorem skipF_eq (N : Nat) (d : Option Tmp) (S : IS) : skipF N d S = skipI N d S := by
  unfold skipF skipI
  simp only [putI_eq]
noncomputable def gF (P : Program) (call : CallI) (N : Nat) (ops : List Oper) (nm : Nat) (o : Oper) (S : IS) : Option IS :=
  match o.guard with
  | none => stepF P call N nm o S
  | some (j, want) => match gdst ops j with
    | none => none
    | some t => match S.get t with
      | .sc (.bool b) => bif b == want then stepF P call N nm o S else skipF N o.dst S
      | .sc (.tuple _) => skipF N o.dst S
      | _ => none
theorem gF_eq (P : Program) (call : CallI) (N : Nat) (ops : List Oper) (nm : Nat) (o : Oper) (S : IS) : gF P call N ops nm o S = gI P call N ops nm o S := by
  unfold gF gI
  simp only [stepF_eq, skipF_eq]
  all_goals rfl
noncomputable def seqF (P : Program) (call : CallI) (N sz : Nat) (ops : List Oper) : List Oper → Nat → IS → Option IS
  | [], _, S => some S
  | o :: r, nm, S => match gF P call N ops nm o S with
    | some S1 => natK (nm + sz) fun nm => seqF P call N sz ops r nm S1
    | none => none
theorem seqF_eq (P : Program) (call : CallI) (N sz : Nat) (ops : List Oper) : ∀ (l : List Oper) (nm : Nat) (S : IS), seqF P call N sz ops l nm S = seqI P call N sz ops l nm S
  | [], _, _ => rfl
  | o :: r, nm, S => by
    simp only [seqF, seqI, gF_eq, natK_eq]
    cases gI P call N ops nm o S with
    | none => rfl
    | some S1 => exact seqF_eq P call N sz ops r _ S1
noncomputable def oneF (P : Program) (call : CallI) (N sz : Nat) (ops : List Oper) (c0 : Nat) (nd : NodeI) (k : Nat) : Option NodeI := match ops[k]? with
  | some o => natK (c0 + k * sz) fun nm => match gF P call N ops nm o nd.2 with
    | some S' => spineK (nd.1.setIfInBounds k true).toList fun l => some (⟨l⟩, S')
    | none => none
  | none => none
theorem oneF_eq (P : Program) (call : CallI) (N sz : Nat) (ops : List Oper) (c0 : Nat) (nd : NodeI) (k : Nat) : oneF P call N sz ops c0 nd k = oneI P call N sz ops c0 nd k := by
  unfold oneF oneI
  simp only [natK_eq, gF_eq, spineK_eq]
  all_goals rfl
noncomputable def nextF (P : Program) (call : CallI) (N sz : Nat) (ops : List Oper) (cl : Bool) (c0 : Nat) (nd : NodeI) : Option (List NodeI) :=
  spineK (readyF nd.1.toList ops nd.1.toList 0) fun rd => match rd with
  | [] => none
  | k :: r => match (bif cl then (k :: r).find? (eagerI ops nd.1) else none) with
    | some j => match oneF P call N sz ops c0 nd j with
      | some x => some [x]
      | none => none
    | none => allI (oneF P call N sz ops c0 nd) (k :: r)
theorem nextF_eq (P : Program) (call : CallI) (N sz : Nat) (ops : List Oper) (c0 : Nat) (nd : NodeI) : nextF P call N sz ops (cleanX ops) c0 nd = nextI P call N sz ops c0 nd := by
  have : oneF P call N sz ops c0 nd = oneI P call N sz ops c0 nd := funext fun k => oneF_eq P call N sz ops c0 nd k
  unfold nextF nextI
  rw [ready_fast]
  simp only [spineK_eq, this]
  all_goals rfl
noncomputable def levelF (P : Program) (call : CallI) (N sz : Nat) (ops : List Oper) (cl : Bool) (c0 : Nat) : List NodeI → Option (List NodeI)
  | [] => some []
  | nd :: r => match nextF P call N sz ops cl c0 nd with
    | some l => match levelF P call N sz ops cl c0 r with
      | some m => spineK (l.foldr ddI m) some
      | none => none
    | none => none
theorem levelF_eq (P : Program) (call : CallI) (N sz : Nat) (ops : List Oper) (c0 : Nat) : ∀ l : List NodeI, levelF P call N sz ops (cleanX ops) c0 l = levelI P call N sz ops c0 l
  | [] => rfl
  | nd :: r => by
    simp only [levelF, levelI, nextF_eq, levelF_eq P call N sz ops c0 r, spineK_eq]
    all_goals rfl
noncomputable def exploreF (P : Program) (call : CallI) (N sz : Nat) (ops : List Oper) (cl : Bool) (c0 : Nat) : Nat → List NodeI → Option IS
  | 0, [nd] => bif (Region.ready .any ops.toArray nd.1).isEmpty then some nd.2 else none
  | 0, _ => none
  | f + 1, l => match levelF P call N sz ops cl c0 l with
    | some m => exploreF P call N sz ops cl c0 f m
    | none => none
theorem exploreF_eq (P : Program) (call : CallI) (N sz : Nat) (ops : List Oper) (c0 : Nat) : ∀ (f : Nat) (l : List NodeI), exploreF P call N sz ops (cleanX ops) c0 f l = exploreI P call N sz ops c0 f l
  | 0, [] => rfl
  | 0, [nd] => rfl
  | 0, _ :: _ :: _ => rfl
  | f + 1, l => by
    simp only [exploreF, exploreI, levelF_eq]
    cases levelI P call N sz ops c0 l with
    | none => rfl
    | some m => exact exploreF_eq P call N sz ops c0 f m
noncomputable def regF (P : Program) (call : CallI) (N sz c0 : Nat) (ops : List Oper) (draw : Bool) (S : IS) : Option IS :=
  match draw with
  | true => (match lexOkX ops with
    | true => seqF P call N sz ops ops c0 S
    | false => boolK (cleanX ops) fun cl => exploreF P call N sz ops cl c0 ops.length [(Array.replicate ops.length false, S)])
  | false => seqF P call N sz ops ops c0 S
theorem regF_eq (P : Program) (call : CallI) (N sz c0 : Nat) (ops : List Oper) (draw : Bool) (S : IS) : regF P call N sz c0 ops draw S = regI P call N sz c0 ops draw S := by
  unfold regF regI
  simp only [seqF_eq, exploreF_eq, boolK_eq]
  cases draw
  · rfl
  · cases lexOkX ops <;> rfl
noncomputable def execF (P : Program) (call : CallI) (N sz hi : Nat) : Nat → Code → Nat → IS → Option (IX × Nat × IS)
  | 0, _, _, _ => none
  | f + 1, .skip, c, S => some (.nrm, c, S)
  | f + 1, .exit i, c, S => some (.ext i, c, S)
  | f + 1, .ret, c, S => some (.rtn, c, S)
  | f + 1, .region _ ⟨ops⟩ draw, c, S => natK (c + ops.length * sz) fun c' => bif Nat.ble c' hi then
      (match regF P call N sz c ops draw S with
      | some S' => some (.nrm, c', S')
      | none => none) else none
  | f + 1, .seq x y, c, S => match execF P call N sz hi f x c S with
    | some (.nrm, c', S') => execF P call N sz hi f y c' S'
    | r => r
  | f + 1, .cond o x y, c, S => match S.ev o with
    | .sc (.bool true) => execF P call N sz hi f x c S
    | .sc (.bool false) => execF P call N sz hi f y c S
    | _ => none
  | f + 1, .block i x, c, S => match execF P call N sz hi f x c S with
    | some (.ext j, c', S') => bif Nat.beq j i then some (.nrm, c', S') else some (.ext j, c', S')
    | r => r
  | f + 1, .loop x, c, S => match execF P call N sz hi f x c S with
    | some (.nrm, c', S') => execF P call N sz hi f (.loop x) c' S'
    | r => r
  | _ + 1, _, _, _ => none
theorem execF_eq (P : Program) (call : CallI) (N sz hi : Nat) : ∀ (f : Nat) (code : Code) (c : Nat) (S : IS), execF P call N sz hi f code c S = execI P call N sz hi f code c S := by
  intro f
  induction f with
  | zero => intro code c S; rfl
  | succ f ih =>
    intro code c S
    cases code with
    | region id ops draw => obtain ⟨ops⟩ := ops; simp only [execF, execI, natK_eq, regF_eq]; all_goals rfl
    | _ => first | rfl | (simp only [execF, execI, ih]; all_goals rfl)
noncomputable def resF (P : Program) (S : IS) (rs : List ResultVar) : Option (IV × IHeap) := match resI P S rs with
  | some vs => ivK (tupI vs) fun r => some (r, S.h)
  | none => none
noncomputable def gcF (sz : Nat) (call : CallI) : CallI := fun nm g args h => match call nm g args h with
  | some (r, h') => natK (nm + sz) fun hi => spineK (h'.filter fun x => newN nm hi x.1) fun new => match new with
    | [] => some (r, h')
    | new => spineK (refsI r (rootsI nm hi h' [])) fun rs => spineK (markI 100000 rs new []) fun kept => spineK (h'.filter (keptI nm hi kept)) fun h'' => some (r, h'')
  | none => none
theorem gcF_eq (sz : Nat) (call : CallI) : gcF sz call = gcC sz call := by
  funext nm g args h
  unfold gcF gcC
  simp only [natK_eq, spineK_eq]
  split
  · unfold gcI
    split <;> rename_i hx <;> simp only [hx]
  · rfl
noncomputable def runF (P : Program) (pr : PrI) (fuel : Nat) : Nat → CallI
  | 0, _, _, _, _ => none
  | d + 1, lo, g, args, h => match prI pr g args with
   | some r => valK r fun r => some (.sc r, h)
   | none => match P.funcs[g]? with
    | none => none
    | some fn => match fn.body with
      | none => none
      | some code => bif fn.name == "runtime.NumGoroutine" then none else bif Nat.ble args.length fn.ntmps then
        natK fn.ntmps fun N => natK (szI d) fun sz => natK (lo + szI (d + 1)) fun hi =>
        (match execF P (gcF sz (runF P pr fuel d)) N sz hi fuel code lo ⟨TT.args args 0 .nil, h⟩ with
        | some (.nrm, _, S') => resF P S' fn.results.toList
        | some (.rtn, _, S') => resF P S' fn.results.toList
        | _ => none) else none
theorem runF_eq (P : Program) (pr : PrI) (fuel : Nat) : ∀ d, runF P pr fuel d = runI P pr fuel d
  | 0 => rfl
  | d + 1 => by
    funext lo g args h
    have ih := runF_eq P pr fuel d
    simp only [runF, runI, natK_eq, valK_eq, ih, execF_eq, resF, ivK_eq, gcF_eq]
    all_goals rfl
noncomputable def readsF (P : Program) (pr : PrI) (fuel d : Nat) (g : FuncId) (args : List Value) (b : Bool) : Bool := match runF P pr fuel d 0 g (args.map .sc) [] with
  | some (.sc (.bool c), _) => c == b
  | _ => false
theorem pcall_of_readsF {P : Program} (hm : P.follows .mixedOrders = true) {pr : PrI} (hpr : PrOK P pr) {fuel d : Nat} {g : FuncId} {args : List Value} {b : Bool} (h : readsF P pr fuel d g args b = true) : PCall P g (args.map .sc) (.sc (.bool b)) := by
  refine pcall_of_reads (fuel := fuel) (d := d) hm hpr ?_
  unfold readsI
  unfold readsF at h
  rw [runF_eq] at h
  exact h
end Go.Ab
