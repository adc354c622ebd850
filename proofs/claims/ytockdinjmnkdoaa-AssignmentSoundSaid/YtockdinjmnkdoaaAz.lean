/- The reading of code and of calls; a call without arguments that reads true. -/
import Derived.Test.YtockdinjmnkdoaaAy
set_option linter.unusedVariables false
set_option linter.unusedSimpArgs false
namespace Go.Ab
open Go.RowKit

/-! ### equality of states -/
def vbeq : Value → Value → Bool
  | .int k n, .int k' n' => decide (k = k') && decide (n = n')
  | .bool b, .bool b' => b == b'
  | .string s, .string s' => decide (s.data.toList = s'.data.toList)
  | .slice none a b, .slice none c d => Nat.beq a c && Nat.beq b d
  | .pointer none, .pointer none => true
  | .map none, .map none => true
  | .nilFunc, .nilFunc => true
  | .nilIface, .nilIface => true
  | .tuple ⟨[]⟩, .tuple ⟨[]⟩ => true
  | _, _ => false

theorem vbeq_eq {a b : Value} (h : vbeq a b = true) : a = b := by
  unfold vbeq at h
  split at h
  · rw [Bool.and_eq_true, decide_eq_true_eq, decide_eq_true_eq] at h; rw [h.1, h.2]
  · rw [beq_iff_eq] at h; rw [h]
  · rename_i s s'
    rw [decide_eq_true_eq] at h
    have : s.data = s'.data := Array.toList_inj.1 h
    cases s; cases s'; simp only at this; rw [this]
  · rw [Bool.and_eq_true, Nat.beq_eq, Nat.beq_eq] at h; rw [h.1, h.2]
  · rfl
  · rfl
  · rfl
  · rfl
  · rfl
  · cases h

def fbeq : Fn → Fn → Bool
  | .func f, .func g => Nat.beq f g
  | _, _ => false

theorem fbeq_eq {a b : Fn} (h : fbeq a b = true) : a = b := by
  unfold fbeq at h
  split at h
  · rw [Nat.beq_eq] at h; rw [h]
  · cases h

mutual
def IV.beq : IV → IV → Bool
  | .any, .any => true
  | .sc v, .sc v' => vbeq v v'
  | .agg cs, .agg cs' => IV.beqL cs cs'
  | .tup cs, .tup cs' => IV.beqL cs cs'
  | .os b o l s, .os b' o' l' s' => Nat.beq b b' && Nat.beq o o' && Nat.beq l l' && Nat.beq s s'
  | .op b o, .op b' o' => Nat.beq b b' && Nat.beq o o'
  | .fn g a c, .fn g' a' c' => fbeq g g' && IV.beqL a a' && IV.beqL c c'
  | _, _ => false
def IV.beqL : List IV → List IV → Bool
  | [], [] => true
  | x :: r, y :: s => IV.beq x y && IV.beqL r s
  | _, _ => false
end

mutual
theorem IV.beq_eq : ∀ (a b : IV), IV.beq a b = true → a = b
  | .any, b, h => by cases b <;> first | rfl | (simp [IV.beq] at h; done)
  | .sc v, b, h => by
    cases b <;> first | (simp [IV.beq] at h; done) | skip
    simp only [IV.beq] at h; rw [vbeq_eq h]
  | .agg cs, b, h => by
    cases b <;> first | (simp [IV.beq] at h; done) | skip
    simp only [IV.beq] at h; rw [IV.beqL_eq _ _ h]
  | .tup cs, b, h => by
    cases b <;> first | (simp [IV.beq] at h; done) | skip
    simp only [IV.beq] at h; rw [IV.beqL_eq _ _ h]
  | .os b o l s, x, h => by
    cases x <;> first | (simp [IV.beq] at h; done) | skip
    simp only [IV.beq, Bool.and_eq_true, Nat.beq_eq] at h; rw [h.1.1.1, h.1.1.2, h.1.2, h.2]
  | .op b o, x, h => by
    cases x <;> first | (simp [IV.beq] at h; done) | skip
    simp only [IV.beq, Bool.and_eq_true, Nat.beq_eq] at h; rw [h.1, h.2]
  | .fn g a c, x, h => by
    cases x <;> first | (simp [IV.beq] at h; done) | skip
    simp only [IV.beq, Bool.and_eq_true] at h; rw [fbeq_eq h.1.1, IV.beqL_eq _ _ h.1.2, IV.beqL_eq _ _ h.2]
theorem IV.beqL_eq : ∀ (a b : List IV), IV.beqL a b = true → a = b
  | [], b, h => by cases b <;> first | rfl | (simp [IV.beqL] at h; done)
  | x :: r, b, h => by
    cases b with
    | nil => simp [IV.beqL] at h
    | cons y s =>
      simp only [IV.beqL, Bool.and_eq_true] at h
      rw [IV.beq_eq _ _ h.1, IV.beqL_eq _ _ h.2]
end

def hbeq : IHeap → IHeap → Bool
  | [], [] => true
  | (n, c) :: r, (m, d) :: s => Nat.beq n m && IV.beqL c d && hbeq r s
  | _, _ => false

theorem hbeq_eq : ∀ (a b : IHeap), hbeq a b = true → a = b
  | [], [], _ => rfl
  | [], _ :: _, h => by simp [hbeq] at h
  | _ :: _, [], h => by simp [hbeq] at h
  | (n, c) :: r, (m, d) :: s, h => by
    simp only [hbeq, Bool.and_eq_true, Nat.beq_eq] at h
    rw [h.1.1, IV.beqL_eq _ _ h.1.2, hbeq_eq _ _ h.2]

def TT.beq : TT → TT → Bool
  | .nil, .nil => true
  | .node v l r, .node v' l' r' => IV.beq v v' && TT.beq l l' && TT.beq r r'
  | _, _ => false

theorem TT.beq_eq : ∀ (a b : TT), TT.beq a b = true → a = b
  | .nil, .nil, _ => rfl
  | .nil, .node _ _ _, h => by simp [TT.beq] at h
  | .node _ _ _, .nil, h => by simp [TT.beq] at h
  | .node v l r, .node v' l' r', h => by
    simp only [TT.beq, Bool.and_eq_true] at h
    rw [IV.beq_eq _ _ h.1.1, TT.beq_eq _ _ h.1.2, TT.beq_eq _ _ h.2]

abbrev NodeI := Array Bool × IS
def nbeq (a b : NodeI) : Bool := (a.1.toList == b.1.toList) && TT.beq a.2.t b.2.t && hbeq a.2.h b.2.h

theorem nbeq_eq {a b : NodeI} (h : nbeq a b = true) : a = b := by
  unfold nbeq at h
  simp only [Bool.and_eq_true, beq_iff_eq] at h
  obtain ⟨⟨h1, h2⟩, h3⟩ := h
  obtain ⟨l, t, hh⟩ := a
  obtain ⟨l', t', hh'⟩ := b
  simp only at h1 h2 h3
  rw [Array.toList_inj.1 h1, TT.beq_eq _ _ h2, hbeq_eq _ _ h3]

/-! ### every order, side by side -/
def eagerI (ops : List Oper) (listed : Array Bool) (k : Nat) : Bool := match ops[k]? with
  | some ok => pureX ok.op || (stX ok.op && quietX ops listed k)
  | none => false

noncomputable def oneI (P : Program) (call : CallI) (N sz : Nat) (ops : List Oper) (c0 : Nat) (nd : NodeI) (k : Nat) : Option NodeI := match ops[k]? with
  | some o => match gI P call N ops (c0 + k * sz) o nd.2 with
    | some S' => some (nd.1.setIfInBounds k true, S')
    | none => none
  | none => none

def allI {α : Type} (f : Nat → Option α) : List Nat → Option (List α)
  | [] => some []
  | k :: r => match f k with
    | some x => match allI f r with
      | some l => some (x :: l)
      | none => none
    | none => none

noncomputable def nextI (P : Program) (call : CallI) (N sz : Nat) (ops : List Oper) (c0 : Nat) (nd : NodeI) : Option (List NodeI) :=
  match Region.ready .any ops.toArray nd.1 with
  | [] => none
  | k :: r => match (bif cleanX ops then (k :: r).find? (eagerI ops nd.1) else none) with
    | some j => match oneI P call N sz ops c0 nd j with
      | some x => some [x]
      | none => none
    | none => allI (oneI P call N sz ops c0 nd) (k :: r)

def ddI (x : NodeI) (l : List NodeI) : List NodeI := bif l.any (nbeq x) then l else x :: l

noncomputable def levelI (P : Program) (call : CallI) (N sz : Nat) (ops : List Oper) (c0 : Nat) : List NodeI → Option (List NodeI)
  | [] => some []
  | nd :: r => match nextI P call N sz ops c0 nd with
    | some l => match levelI P call N sz ops c0 r with
      | some m => some (l.foldr ddI m)
      | none => none
    | none => none

noncomputable def exploreI (P : Program) (call : CallI) (N sz : Nat) (ops : List Oper) (c0 : Nat) : Nat → List NodeI → Option IS
  | 0, [nd] => bif (Region.ready .any ops.toArray nd.1).isEmpty then some nd.2 else none
  | 0, _ => none
  | f + 1, l => match levelI P call N sz ops c0 l with
    | some m => exploreI P call N sz ops c0 f m
    | none => none

theorem eager_found {ops : List Oper} {l : List Nat} {listed : Array Bool} {j : Nat} (h : (bif cleanX ops then l.find? (eagerI ops listed) else none) = some j) : cleanX ops = true ∧ j ∈ l ∧ eagerI ops listed j = true := by
  cases hc : cleanX ops with
  | false => rw [hc] at h; cases h
  | true => rw [hc] at h; exact ⟨rfl, List.mem_of_find?_eq_some h, List.find?_some h⟩

theorem mem_ddI {x y : NodeI} {l : List NodeI} : (y = x ∨ y ∈ l) ↔ y ∈ ddI x l := by
  unfold ddI
  cases h : l.any (nbeq x) with
  | true =>
    simp only [cond_true]
    obtain ⟨z, hz, he⟩ := List.any_eq_true.1 h
    rw [← nbeq_eq he] at hz
    exact ⟨fun h => h.elim (fun e => e ▸ hz) id, .inr⟩
  | false => simp

theorem mem_foldI {y : NodeI} : ∀ {l m : List NodeI}, y ∈ l.foldr ddI m ↔ y ∈ l ∨ y ∈ m
  | [], m => by simp
  | x :: l, m => by rw [List.foldr_cons, ← mem_ddI, mem_foldI, List.mem_cons, or_assoc]

section
variable {P : Program} {N : Nat}

theorem levelI_mem {call : CallI} {sz c0 : Nat} {ops : List Oper} : ∀ {l m : List NodeI}, levelI P call N sz ops c0 l = some m →
    (∀ nd ∈ l, ∃ n, nextI P call N sz ops c0 nd = some n ∧ ∀ x ∈ n, x ∈ m) ∧ ∀ x ∈ m, ∃ nd ∈ l, ∃ n, nextI P call N sz ops c0 nd = some n ∧ x ∈ n
  | [], m, h => by cases h; exact ⟨fun nd h => (by cases h), fun nd h => (by cases h)⟩
  | nd :: r, m, h => by
    simp only [levelI] at h
    split at h
    · rename_i n hn
      split at h
      · rename_i m' hm
        cases h
        obtain ⟨i1, i2⟩ := levelI_mem hm
        refine ⟨fun nd' h' => ?_, fun x hx => ?_⟩
        · rcases List.mem_cons.1 h' with rfl | h'
          · exact ⟨n, hn, fun x hx => mem_foldI.2 (.inl hx)⟩
          · obtain ⟨n', h1, h2⟩ := i1 nd' h'
            exact ⟨n', h1, fun x hx => mem_foldI.2 (.inr (h2 x hx))⟩
        · rcases mem_foldI.1 hx with hx | hx
          · exact ⟨nd, List.mem_cons_self, n, hn, hx⟩
          · obtain ⟨nd', h1, n', h2, h3⟩ := i2 x hx
            exact ⟨nd', List.mem_cons_of_mem _ h1, n', h2, h3⟩
      · cases h
    · cases h

theorem allI_mem {α : Type} {f : Nat → Option α} : ∀ {l : List Nat} {m : List α}, allI f l = some m → (∀ k ∈ l, ∃ x, f k = some x ∧ x ∈ m) ∧ ∀ x ∈ m, ∃ k ∈ l, f k = some x
  | [], m, h => by cases h; exact ⟨fun k h => (by cases h), fun k h => (by cases h)⟩
  | k :: r, m, h => by
    simp only [allI] at h
    split at h
    · rename_i x hx
      split at h
      · rename_i l hl
        cases h
        obtain ⟨i1, i2⟩ := allI_mem hl
        refine ⟨fun k' h' => ?_, fun y hy => ?_⟩
        · rcases List.mem_cons.1 h' with rfl | h'
          · exact ⟨x, hx, List.mem_cons_self⟩
          · obtain ⟨y, h1, h2⟩ := i1 k' h'
            exact ⟨y, h1, List.mem_cons_of_mem _ h2⟩
        · rcases List.mem_cons.1 hy with rfl | hy
          · exact ⟨k, List.mem_cons_self, hx⟩
          · obtain ⟨k', h1, h2⟩ := i2 y hy
            exact ⟨k', List.mem_cons_of_mem _ h1, h2⟩
      · cases h
    · cases h

/-- The names that may be met when these operations have come up. -/
def Lst (I : Nat → Prop) (c0 sz : Nat) (listed : Array Bool) : Nat → Prop := fun n => I n ∨ ∃ i, listed.getD i false = true ∧ c0 + i * sz ≤ n ∧ n < c0 + i * sz + sz

theorem slot_eq {c0 sz i k n : Nat} (h1 : c0 + i * sz ≤ n) (h2 : n < c0 + i * sz + sz) (h3 : c0 + k * sz ≤ n) (h4 : n < c0 + k * sz + sz) : i = k := by
  rcases Nat.lt_trichotomy i k with h | h | h
  · have := Nat.mul_le_mul_right sz (Nat.succ_le_of_lt h)
    rw [Nat.succ_mul] at this
    omega
  · exact h
  · have := Nat.mul_le_mul_right sz (Nat.succ_le_of_lt h)
    rw [Nat.succ_mul] at this
    omega

theorem slot_in {c0 sz k n m : Nat} (hk : k < n) (h1 : c0 + k * sz ≤ m) (h2 : m < c0 + k * sz + sz) : c0 ≤ m ∧ m < c0 + n * sz := by
  have := Nat.mul_le_mul_right sz (Nat.succ_le_of_lt hk)
  rw [Nat.succ_mul] at this
  omega

theorem lst_out {I : Nat → Prop} {c0 sz n k : Nat} {listed : Array Bool} (hI : Out I c0 (n * sz)) (hk : k < n) (hl : listed.getD k false = false) : Out (Lst I c0 sz listed) (c0 + k * sz) sz := fun m h1 h2 hm => by
  rcases hm with hm | ⟨i, hi, h3, h4⟩
  · have := slot_in hk h1 h2
    exact hI m this.1 this.2 hm
  · have := slot_eq h3 h4 h1 h2
    subst this
    rw [hl] at hi
    cases hi

theorem lst_set {I : Nat → Prop} {c0 sz k : Nat} {listed : Array Bool} (hk : k < listed.size) : ∀ m, Plus (Lst I c0 sz listed) (c0 + k * sz) sz m → Lst I c0 sz (listed.setIfInBounds k true) m := fun m hm => by
  rcases hm with (hm | ⟨i, hi, h3⟩) | hm
  · exact .inl hm
  · refine .inr ⟨i, ?_, h3⟩
    by_cases hik : k = i
    · subst hik; simp [hk]
    · rw [getD_set_ne false hik]; exact hi
  · exact .inr ⟨k, by simp [hk], hm⟩

theorem agr_slot {c0 sz k n : Nat} {ρ ρ' : Nat → Nat} (hk : k < n) (h : Agr (c0 + k * sz) sz ρ ρ') : Agr c0 (n * sz) ρ ρ' := fun m hm => h m fun x => hm (slot_in hk x.1 x.2)
theorem Agr.trans {lo sz : Nat} {ρ ρ1 ρ2 : Nat → Nat} (h1 : Agr lo sz ρ ρ1) (h2 : Agr lo sz ρ1 ρ2) : Agr lo sz ρ ρ2 := fun m hm => (h2 m hm).trans (h1 m hm)

structure NodeOK (I : Nat → Prop) (c0 sz n : Nat) (nd : NodeI) : Prop where
  siz : nd.1.size = n
  sup : SupS (Lst I c0 sz nd.1) nd.2

theorem oneI_ok {call : CallI} {sz c0 k : Nat} (hcall : CallOK P call sz) (hz : 0 < sz) {ops : List Oper} {I : Nat → Prop} (hI : Out I c0 (ops.length * sz)) {nd x : NodeI} (hn : NodeOK I c0 sz ops.length nd)
    (hk : k ∈ Region.ready .any ops.toArray nd.1) (h : oneI P call N sz ops c0 nd k = some x) :
    NodeOK I c0 sz ops.length x ∧ ∃ o, ops[k]? = some o ∧ k < ops.length ∧ x.1 = nd.1.setIfInBounds k true ∧ GOK P N ops o (c0 + k * sz) sz (Lst I c0 sz nd.1) nd.2 x.2 := by
  unfold oneI at h
  split at h
  · rename_i o ho
    split at h
    · rename_i S' hg
      cases h
      have hlt : k < ops.length := (List.getElem?_eq_some_iff.1 ho).1
      have hun : nd.1.getD k false = false := by
        have := (mem_ready.1 hk).1
        have hks : k < nd.1.size := by rw [hn.siz]; exact hlt
        simpa [hks] using this
      have g := gI_ok hcall hz hg (lst_out hI hlt hun) hn.sup
      exact ⟨⟨by simpa using hn.siz, g.sup.mono (lst_set (by rw [hn.siz]; exact hlt))⟩, o, ho, hlt, rfl, g⟩
    · cases h
  · cases h

theorem explore_ok {call : CallI} {sz c0 : Nat} (hcall : CallOK P call sz) (hz : 0 < sz) {ops : List Oper} {I : Nat → Prop} (hI : Out I c0 (ops.length * sz)) : ∀ (f : Nat) (l : List NodeI) (S' : IS), exploreI P call N sz ops c0 f l = some S' →
    (∀ nd ∈ l, NodeOK I c0 sz ops.length nd) → (l ≠ [] → SupS (Plus I c0 (ops.length * sz)) S') ∧
    ∀ nd ∈ l, ∀ ρ T h, DS ρ nd.2 T h → ∀ K : (Nat → SV) → Heap → Prop, (∀ ρ' T' h', Agr c0 (ops.length * sz) ρ ρ' → DS ρ' S' T' h' → K T' h') → anyX P N ops K f nd.1 T h := by
  intro f
  induction f with
  | zero =>
    intro l S' h hn
    rcases l with _ | ⟨nd, _ | ⟨nd2, r⟩⟩
    · cases h
    · simp only [exploreI] at h
      cases hr : (Region.ready .any ops.toArray nd.1).isEmpty with
      | false => rw [hr] at h; cases h
      | true =>
        rw [hr] at h
        cases h
        refine ⟨fun _ => ((hn nd List.mem_cons_self).sup).mono fun m hm => ?_, fun nd' hnd ρ T h Dd K hK => ?_⟩
        · rcases hm with hm | ⟨i, hi, h3, h4⟩
          · exact .inl hm
          · refine .inr ?_
            have hlt : i < nd.1.size := by
              rcases Nat.lt_or_ge i nd.1.size with h | h
              · exact h
              · simp [Array.getElem?_eq_none h] at hi
            rw [(hn nd List.mem_cons_self).siz] at hlt
            exact slot_in hlt h3 h4
        · rw [List.mem_singleton.1 hnd] at Dd ⊢
          exact ⟨by simpa using hr, hK ρ T h (.refl _ _ _) Dd⟩
    · simp only [exploreI] at h
      cases h
  | succ f ih =>
    intro l S' h hn
    simp only [exploreI] at h
    split at h
    · rename_i m hm
      obtain ⟨l1, l2⟩ := levelI_mem hm
      have succ : ∀ nd ∈ l, ∀ n, nextI P call N sz ops c0 nd = some n → ∀ x ∈ n, ∃ k, k ∈ Region.ready .any ops.toArray nd.1 ∧ oneI P call N sz ops c0 nd k = some x := fun nd hnd n hnx x hx => by
        unfold nextI at hnx
        split at hnx
        · cases hnx
        · rename_i k r hrd
          split at hnx
          · rename_i j hj
            split at hnx
            · rename_i y hy
              cases hnx
              rw [List.mem_singleton.1 hx]
              exact ⟨j, by rw [hrd]; exact (eager_found hj).2.1, hy⟩
            · cases hnx
          · obtain ⟨j, h1, h2⟩ := (allI_mem hnx).2 x hx
            exact ⟨j, by rw [hrd]; exact h1, h2⟩
      have hm' : ∀ x ∈ m, NodeOK I c0 sz ops.length x := fun x hx => by
        obtain ⟨nd, hnd, n, h1, h2⟩ := l2 x hx
        obtain ⟨k, h3, h4⟩ := succ nd hnd n h1 x h2
        exact (oneI_ok hcall hz hI (hn nd hnd) h3 h4).1
      obtain ⟨i1, i2⟩ := ih m S' h hm'
      refine ⟨fun hne => ?_, fun nd hnd ρ T h Dd K hK => ?_⟩
      · obtain ⟨nd, r, rfl⟩ := List.exists_cons_of_ne_nil hne
        obtain ⟨n, h1, h2⟩ := l1 nd List.mem_cons_self
        have : n ≠ [] := by
          unfold nextI at h1
          split at h1
          · cases h1
          · split at h1
            · split at h1
              · cases h1; simp
              · cases h1
            · intro e
              subst e
              obtain ⟨x, _, hx⟩ := (allI_mem h1).1 _ List.mem_cons_self
              cases hx
        obtain ⟨x, r', rfl⟩ := List.exists_cons_of_ne_nil this
        exact i1 (fun e => by have := h2 x List.mem_cons_self; rw [e] at this; cases this)
      · obtain ⟨n, h1, h2⟩ := l1 nd hnd
        have use : ∀ k, k ∈ Region.ready .any ops.toArray nd.1 → ∀ x, oneI P call N sz ops c0 nd k = some x → x ∈ n → opX P N ops k (anyX P N ops K f (nd.1.setIfInBounds k true)) T h ∧
            (∃ o, ops[k]? = some o ∧ (stX o.op = true → ∃ v, YX P N ops o T h v ∧ anyX P N ops K f (nd.1.setIfInBounds k true) (putF T o.dst v) h)) := fun k hk x hx hxn => by
          obtain ⟨_, o, ho, hlt, e1, g⟩ := oneI_ok hcall hz hI (hn nd hnd) hk hx
          have nxt := i2 x (h2 x hxn)
          rw [e1] at nxt
          have st : stX o.op = true → ∃ v, YX P N ops o T h v ∧ anyX P N ops K f (nd.1.setIfInBounds k true) (putF T o.dst v) h := fun hst => by
            obtain ⟨v, e, hv⟩ := g.st hst
            refine ⟨v.den ρ, hv ρ T h Dd, nxt ρ _ _ ?_ K hK⟩
            rw [e]
            exact Dd.put o.dst v
          refine ⟨?_, o, ho, st⟩
          unfold opX
          simp only [ho]
          cases hst : stX o.op with
          | true => exact st hst
          | false =>
            obtain ⟨S0, e2, e3⟩ := Dd.st
            subst e2 e3
            exact ⟨S0, rfl, rfl, g.run ρ S0 Dd _ (fun ρ1 T' h' a1 d1 => nxt ρ1 T' h' d1 K (fun ρ' T'' h'' a2 d2 => hK ρ' T'' h'' ((agr_slot hlt a1).trans a2) d2))⟩
        unfold nextI at h1
        split at h1
        · cases h1
        · rename_i k r hrd
          split at h1
          · rename_i j hj
            split at h1
            · rename_i y hy
              cases h1
              obtain ⟨hcl, hjl, hje⟩ := eager_found hj
              have hjm : j ∈ Region.ready .any ops.toArray nd.1 := by rw [hrd]; exact hjl
              unfold eagerI at hje
              obtain ⟨_, o, ho, st⟩ := use j hjm y hy List.mem_cons_self
              rw [ho] at hje
              simp only [Bool.or_eq_true, Bool.and_eq_true] at hje
              have hst : stX o.op = true := hje.elim pureX_st (fun x => x.1)
              obtain ⟨v, hy1, hy2⟩ := st hst
              have nol : ∀ l, nd.1.getD l true = false → ∀ e ∈ o.after, Region.binds .any e = true → e.on ≠ l := fun l hun e he hb heq => by
                obtain ⟨_, o', ho', hal⟩ := mem_ready.1 hjm
                rw [List.getElem?_toArray, ho] at ho'
                cases ho'
                have h1 := hal e he hb
                rw [heq] at h1
                rcases Nat.lt_or_ge l nd.1.size with h' | h'
                · simp [h'] at hun h1; rw [hun] at h1; cases h1
                · simp [Array.getElem?_eq_none h'] at h1
              rcases hje with hp | ⟨_, hq⟩
              · obtain ⟨S0, e2, e3⟩ := Dd.st
                exact anyX_pure ho hp f nd.1 T h ⟨S0.t, e2⟩ (fun j' oj hj' hne hun h1 h2 => cleanX_spec hcl ho hj' hne h1 h2) hjm hy1 hy2
              · exact anyX_first ho hst f nd.1 T (fun j' oj hj' hne hun h1 => ⟨cleanX_spec hcl ho hj' hne h1 (nol j' hun), quietX_spec hq j' oj hj' hne hun h1⟩) hjm hy1 hy2
            · cases h1
          · refine ⟨fun h0 => (by rw [hrd] at h0; cases h0), fun j hj => ?_⟩
            obtain ⟨x, hx, hxn⟩ := (allI_mem h1).1 j (by rw [← hrd]; exact hj)
            exact (use j hj x hx hxn).1
    · cases h

/-! ### code -/
inductive IX where
  | nrm
  | ext (i : Nat)
  | rtn

def IX.exit : IX → Exit
  | .nrm => .normal
  | .ext i => .exit i
  | .rtn => .ret

noncomputable def regI (P : Program) (call : CallI) (N sz c0 : Nat) (ops : List Oper) (draw : Bool) (S : IS) : Option IS :=
  bif draw then
    (bif lexOkX ops then seqI P call N sz ops ops c0 S else exploreI P call N sz ops c0 ops.length [(Array.replicate ops.length false, S)])
  else seqI P call N sz ops ops c0 S

noncomputable def execI (P : Program) (call : CallI) (N sz hi : Nat) : Nat → Code → Nat → IS → Option (IX × Nat × IS)
  | 0, _, _, _ => none
  | f + 1, .skip, c, S => some (.nrm, c, S)
  | f + 1, .exit i, c, S => some (.ext i, c, S)
  | f + 1, .ret, c, S => some (.rtn, c, S)
  | f + 1, .region _ ⟨ops⟩ draw, c, S => bif Nat.ble (c + ops.length * sz) hi then
      (match regI P call N sz c ops draw S with
      | some S' => some (.nrm, c + ops.length * sz, S')
      | none => none) else none
  | f + 1, .seq x y, c, S => match execI P call N sz hi f x c S with
    | some (.nrm, c', S') => execI P call N sz hi f y c' S'
    | r => r
  | f + 1, .cond o x y, c, S => match S.ev o with
    | .sc (.bool true) => execI P call N sz hi f x c S
    | .sc (.bool false) => execI P call N sz hi f y c S
    | _ => none
  | f + 1, .block i x, c, S => match execI P call N sz hi f x c S with
    | some (.ext j, c', S') => bif Nat.beq j i then some (.nrm, c', S') else some (.ext j, c', S')
    | r => r
  | f + 1, .loop x, c, S => match execI P call N sz hi f x c S with
    | some (.nrm, c', S') => execI P call N sz hi f (.loop x) c' S'
    | r => r
  | _ + 1, _, _, _ => none

/-- What code must bring. -/
def ExecOK (P : Program) (N c c' hi : Nat) (code : Code) (S S' : IS) (e : IX) : Prop :=
  ∀ I : Nat → Prop, c ≤ hi → (∀ n, c ≤ n → n < hi → ¬ I n) → SupS I S → c ≤ c' ∧ c' ≤ hi ∧ SupS (Plus I c (c' - c)) S' ∧
    ∀ ρ (S0 : St), DS ρ S (look S0.t) S0.h → ∀ Q : Exit → St → Prop, (∀ ρ' S1, Agr c (c' - c) ρ ρ' → DS ρ' S' (look S1.t) S1.h → Q e.exit S1) → SW P N code Q S0

theorem ExecOK.join {I : Nat → Prop} {c c1 hi : Nat} (h : ∀ n, c ≤ n → n < hi → ¬ I n) (h1 : c ≤ c1) : ∀ n, c1 ≤ n → n < hi → ¬ Plus I c (c1 - c) n := fun n hn hlt hp => by
  rcases hp with hp | hp
  · exact h n (by omega) hlt hp
  · omega

theorem plus_join {I : Nat → Prop} {c c1 c2 : Nat} (h1 : c ≤ c1) (h2 : c1 ≤ c2) : ∀ n, Plus (Plus I c (c1 - c)) c1 (c2 - c1) n → Plus I c (c2 - c) n := fun n hp => by
  rcases hp with (hp | hp) | hp
  · exact .inl hp
  · exact .inr ⟨hp.1, by omega⟩
  · exact .inr ⟨by omega, by omega⟩

theorem agr_join {c c1 c2 : Nat} {ρ ρ1 ρ2 : Nat → Nat} (h1 : c ≤ c1) (h2 : c1 ≤ c2) (a1 : Agr c (c1 - c) ρ ρ1) (a2 : Agr c1 (c2 - c1) ρ1 ρ2) : Agr c (c2 - c) ρ ρ2 := fun n hn => by
  rw [a2 n (fun x => hn ⟨by omega, by omega⟩), a1 n (fun x => hn ⟨x.1, by omega⟩)]

theorem supS_start {I : Nat → Prop} {c0 sz n : Nat} {S : IS} (H : SupS I S) : NodeOK I c0 sz n (Array.replicate n false, S) := ⟨by simp, H.mono fun m hm => .inl hm⟩

theorem regI_ok {call : CallI} {sz : Nat} (hm : P.follows .mixedOrders = true) (hcall : CallOK P call sz) (hz : 0 < sz) {c0 id : Nat} {ops : List Oper} {draw : Bool} {S S' : IS} (h : regI P call N sz c0 ops draw S = some S') {I : Nat → Prop} (hI : Out I c0 (ops.length * sz)) (H : SupS I S) :
    SupS (Plus I c0 (ops.length * sz)) S' ∧ ∀ ρ (S0 : St), DS ρ S (look S0.t) S0.h → ∀ Q : Exit → St → Prop, (∀ ρ' S1, Agr c0 (ops.length * sz) ρ ρ' → DS ρ' S' (look S1.t) S1.h → Q .normal S1) → SW P N (.region id ops.toArray draw) Q S0 := by
  unfold regI at h
  cases draw with
  | false =>
    simp only [cond_false] at h
    obtain ⟨s1, r1⟩ := seqI_ok hcall hz ops c0 S S' I h hI H
    refine ⟨s1, fun ρ S0 Dd Q hQ => SW.regionE ?_⟩
    have := (r1 ρ).1 S0 Dd (fun T h => ∃ ρ', Agr c0 (ops.length * sz) ρ ρ' ∧ DS ρ' S' T h) (fun ρ' T' h' a d => ⟨ρ', a, d⟩)
    exact vcE_mono _ _ _ _ (fun S1 ⟨ρ', a, d⟩ => hQ ρ' S1 a d) this
  | true =>
    simp only [cond_true] at h
    cases hl : lexOkX ops with
    | true =>
      rw [hl] at h
      simp only [cond_true] at h
      obtain ⟨s1, r1⟩ := seqI_ok hcall hz ops c0 S S' I h hI H
      refine ⟨s1, fun ρ S0 Dd Q hQ => regionX_sound hm ?_⟩
      refine anyX_lex ops 0 _ _ _ (by simp) hl ((r1 ρ).2 _ _ Dd _ fun ρ' T' h' a d S1 e1 e2 => ?_)
      subst e1 e2
      exact hQ ρ' S1 a d
    | false =>
      rw [hl] at h
      simp only [cond_false] at h
      obtain ⟨s1, r1⟩ := explore_ok hcall hz hI _ _ _ h (fun nd hnd => by rw [List.mem_singleton.1 hnd]; exact supS_start H)
      refine ⟨s1 (by simp), fun ρ S0 Dd Q hQ => regionX_sound hm ?_⟩
      refine r1 _ List.mem_cons_self ρ _ _ Dd _ fun ρ' T' h' a d S1 e1 e2 => ?_
      subst e1 e2
      exact hQ ρ' S1 a d

theorem execI_ok {call : CallI} {sz hi : Nat} (hm : P.follows .mixedOrders = true) (hcall : CallOK P call sz) (hz : 0 < sz) : ∀ (f : Nat) (code : Code) (c : Nat) (S : IS) (e : IX) (c' : Nat) (S' : IS),
    execI P call N sz hi f code c S = some (e, c', S') → ExecOK P N c c' hi code S S' e := by
  intro f
  induction f with
  | zero => intro code c S e c' S' h; cases h
  | succ f ih =>
    intro code c S e c' S' h
    have stay : ∀ (code : Code) (e : IX), (∀ (Q : Exit → St → Prop) (S0 : St), Q e.exit S0 → SW P N code Q S0) → ExecOK P N c c hi code S S e := fun code e hq I hc hI H =>
      ⟨Nat.le_refl _, hc, H.mono plus_l, fun ρ S0 Dd Q hQ => hq Q S0 (hQ ρ S0 (.refl _ _ _) Dd)⟩
    cases code with
    | skip => cases h; exact stay _ _ fun Q S0 h => SW.skip h
    | exit i => cases h; exact stay _ _ fun Q S0 h => SW.exit h
    | ret => cases h; exact stay _ _ fun Q S0 h => SW.ret h
    | region id ops draw =>
      obtain ⟨ops⟩ := ops
      simp only [execI] at h
      cases hb : Nat.ble (c + ops.length * sz) hi with
      | false => rw [hb] at h; cases h
      | true =>
        rw [hb] at h
        simp only [cond_true] at h
        rw [Nat.ble_eq] at hb
        split at h
        · rename_i S1 hr
          cases h
          intro I hc hI H
          obtain ⟨s1, r1⟩ := regI_ok (id := id) hm hcall hz hr (fun n h1 h2 => hI n h1 (by omega)) H
          have ec : c + ops.length * sz - c = ops.length * sz := by omega
          refine ⟨by omega, hb, by rw [ec]; exact s1, fun ρ S0 Dd Q hQ => r1 ρ S0 Dd Q fun ρ' S2 a d => hQ ρ' S2 (by rw [ec]; exact a) d⟩
        · cases h
    | seq x y =>
      simp only [execI] at h
      split at h
      · rename_i c1 S1 h1
        intro I hc hI H
        obtain ⟨a1, a2, a3, a4⟩ := ih _ _ _ _ _ _ h1 I hc hI H
        obtain ⟨b1, b2, b3, b4⟩ := ih _ _ _ _ _ _ h _ a2 (ExecOK.join hI a1) a3
        refine ⟨by omega, b2, b3.mono (plus_join a1 b1), fun ρ S0 Dd Q hQ => SW.seq (a4 ρ S0 Dd _ fun ρ1 S2 g1 d1 => ?_)⟩
        exact b4 ρ1 S2 d1 Q fun ρ2 S3 g2 d2 => hQ ρ2 S3 (agr_join a1 b1 g1 g2) d2
      · rename_i hne
        intro I hc hI H
        obtain ⟨a1, a2, a3, a4⟩ := ih _ _ _ _ _ _ h I hc hI H
        refine ⟨a1, a2, a3, fun ρ S0 Dd Q hQ => SW.seq (a4 ρ S0 Dd _ fun ρ1 S2 g1 d1 => ?_)⟩
        cases e with
        | nrm => exact absurd h (hne _ _)
        | ext i => exact hQ ρ1 S2 g1 d1
        | rtn => exact hQ ρ1 S2 g1 d1
    | cond o x y =>
      simp only [execI] at h
      split at h
      · rename_i ho
        intro I hc hI H
        obtain ⟨a1, a2, a3, a4⟩ := ih _ _ _ _ _ _ h I hc hI H
        refine ⟨a1, a2, a3, fun ρ S0 Dd Q hQ => SW.cond ?_⟩
        rw [ev_look, Dd.ev o, ho]
        exact a4 ρ S0 Dd Q hQ
      · rename_i ho
        intro I hc hI H
        obtain ⟨a1, a2, a3, a4⟩ := ih _ _ _ _ _ _ h I hc hI H
        refine ⟨a1, a2, a3, fun ρ S0 Dd Q hQ => SW.cond ?_⟩
        rw [ev_look, Dd.ev o, ho]
        exact a4 ρ S0 Dd Q hQ
      · cases h
    | block i x =>
      simp only [execI] at h
      split at h
      · rename_i j c1 S1 h1
        intro I hc hI H
        obtain ⟨a1, a2, a3, a4⟩ := ih _ _ _ _ _ _ h1 I hc hI H
        cases hb : Nat.beq j i with
        | true =>
          rw [hb] at h
          cases h
          exact ⟨a1, a2, a3, fun ρ S0 Dd Q hQ => SW.block (a4 ρ S0 Dd _ fun ρ1 S2 g1 d1 => by simp only [IX.exit, inB, hb, cond_true]; exact hQ ρ1 S2 g1 d1)⟩
        | false =>
          rw [hb] at h
          cases h
          exact ⟨a1, a2, a3, fun ρ S0 Dd Q hQ => SW.block (a4 ρ S0 Dd _ fun ρ1 S2 g1 d1 => by simp only [IX.exit, inB, hb, cond_false]; exact hQ ρ1 S2 g1 d1)⟩
      · rename_i hne
        intro I hc hI H
        obtain ⟨a1, a2, a3, a4⟩ := ih _ _ _ _ _ _ h I hc hI H
        refine ⟨a1, a2, a3, fun ρ S0 Dd Q hQ => SW.block (a4 ρ S0 Dd _ fun ρ1 S2 g1 d1 => ?_)⟩
        cases e with
        | nrm => exact hQ ρ1 S2 g1 d1
        | ext j => exact absurd h (hne _ _ _)
        | rtn => exact hQ ρ1 S2 g1 d1
    | loop x =>
      intro I hc hI H
      have key : ∀ (f : Nat), (∀ (code : Code) (c : Nat) (S : IS) (e : IX) (c' : Nat) (S' : IS), execI P call N sz hi f code c S = some (e, c', S') → ExecOK P N c c' hi code S S' e) → execI P call N sz hi (f + 1) (.loop x) c S = some (e, c', S') →
          c ≤ c' ∧ c' ≤ hi ∧ SupS (Plus I c (c' - c)) S' := fun f ih h => by
        simp only [execI] at h
        split at h
        · rename_i c1 S1 h1
          obtain ⟨a1, a2, a3, a4⟩ := ih _ _ _ _ _ _ h1 I hc hI H
          obtain ⟨b1, b2, b3, b4⟩ := ih _ _ _ _ _ _ h _ a2 (ExecOK.join hI a1) a3
          exact ⟨by omega, b2, b3.mono (plus_join a1 b1)⟩
        · obtain ⟨a1, a2, a3, a4⟩ := ih _ _ _ _ _ _ h I hc hI H
          exact ⟨a1, a2, a3⟩
      obtain ⟨k1, k2, k3⟩ := key f ih h
      refine ⟨k1, k2, k3, fun ρ S0 Dd Q hQ => ?_⟩
      refine SW.loop (fun n S1 => n ≤ f + 1 ∧ ∃ c1 T1 ρ1, c ≤ c1 ∧ c1 ≤ c' ∧ execI P call N sz hi n (.loop x) c1 T1 = some (e, c', S') ∧ SupS (Plus I c (c1 - c)) T1 ∧ Agr c (c1 - c) ρ ρ1 ∧ DS ρ1 T1 (look S1.t) S1.h) (f + 1)
        ⟨Nat.le_refl _, c, S, ρ, Nat.le_refl _, k1, h, H.mono plus_l, .refl _ _ _, Dd⟩ fun n S1 ⟨hn, c1, T1, ρ1, p1, p2, hx, hsup, ha, hd⟩ => ?_
      cases n with
      | zero => cases hx
      | succ n =>
        have ihn : ∀ (code : Code) (c : Nat) (S : IS) (e : IX) (c' : Nat) (S' : IS), execI P call N sz hi n code c S = some (e, c', S') → ExecOK P N c c' hi code S S' e := fun code c S e c' S' hh => by
          have mono : ∀ (n : Nat) (code : Code) (c : Nat) (S : IS) (r : IX × Nat × IS), execI P call N sz hi n code c S = some r → execI P call N sz hi (n + 1) code c S = some r := by
            intro n
            induction n with
            | zero => intro code c S r h; cases h
            | succ n ihm =>
              intro code c S r h
              cases code with
              | seq x y =>
                simp only [execI] at h
                rw [execI]
                split at h
                · rename_i c1 S1 h1; rw [ihm _ _ _ _ h1]; exact ihm _ _ _ _ h
                · rename_i hne
                  rw [ihm _ _ _ _ h]
                  obtain ⟨e, c1, S1⟩ := r
                  cases e with
                  | nrm => exact absurd h (hne _ _)
                  | _ => rfl
              | cond o x y =>
                simp only [execI] at h
                rw [execI]
                split at h
                · rename_i ho; first | exact ihm _ _ _ _ h | (rw [ho]; exact ihm _ _ _ _ h)
                · rename_i ho; first | exact ihm _ _ _ _ h | (rw [ho]; exact ihm _ _ _ _ h)
                · cases h
              | block i x =>
                simp only [execI] at h
                rw [execI]
                split at h
                · rename_i j c1 S1 h1; rw [ihm _ _ _ _ h1]; exact h
                · rename_i hne
                  rw [ihm _ _ _ _ h]
                  obtain ⟨e, c1, S1⟩ := r
                  cases e with
                  | ext j => exact absurd h (hne _ _ _)
                  | _ => rfl
              | loop x =>
                simp only [execI] at h
                rw [execI]
                split at h
                · rename_i c1 S1 h1; rw [ihm _ _ _ _ h1]; exact ihm _ _ _ _ h
                · rename_i hne
                  rw [ihm _ _ _ _ h]
                  obtain ⟨e, c1, S1⟩ := r
                  cases e with
                  | nrm => exact absurd h (hne _ _)
                  | _ => rfl
              | region id ops draw => simpa only [execI] using h
              | _ => first | (simpa only [execI] using h) | (simp only [execI] at h; cases h)
          have up : ∀ (m : Nat) (r : IX × Nat × IS), execI P call N sz hi n code c S = some r → execI P call N sz hi (n + m) code c S = some r := by
            intro m
            induction m with
            | zero => exact fun r h => h
            | succ m ihm => exact fun r h => mono _ _ _ _ _ (ihm r h)
          have := up (f - n) _ hh
          rw [show n + (f - n) = f by omega] at this
          exact ih _ _ _ _ _ _ this
        simp only [execI] at hx
        have hI1 := ExecOK.join (c1 := c1) hI p1
        split at hx
        · rename_i c2 S2 h1
          obtain ⟨a1, a2, a3, a4⟩ := ihn _ _ _ _ _ _ h1 _ (by omega) hI1 hsup
          obtain ⟨b1, b2, b3, b4⟩ := ihn _ _ _ _ _ _ hx _ a2 (ExecOK.join hI1 a1) a3
          refine a4 ρ1 S1 hd _ fun ρ2 S3 g2 d2 => ?_
          exact ⟨n, S3, by omega, .refl _, by omega, c2, S2, ρ2, by omega, b1, hx, a3.mono (plus_join p1 a1), agr_join p1 a1 ha g2, d2⟩
        · rename_i hne
          obtain ⟨a1, a2, a3, a4⟩ := ihn _ _ _ _ _ _ hx _ (by omega) hI1 hsup
          refine a4 ρ1 S1 hd _ fun ρ2 S3 g2 d2 => ?_
          cases e with
          | nrm => exact absurd hx (hne _ _)
          | ext i => exact hQ ρ2 S3 (agr_join p1 a1 ha g2) d2
          | rtn => exact hQ ρ2 S3 (agr_join p1 a1 ha g2) d2
    | _ => simp only [execI] at h; cases h

/-! ### calls -/
noncomputable def resI (P : Program) (S : IS) : List ResultVar → Option (List IV)
  | [] => some []
  | .tmp t :: r => match resI P S r with
    | some l => some (S.get t :: l)
    | none => none
  | .cell x t :: r => match loadIV (tk P t) (S.get x) S.h with
    | .ok v => match resI P S r with
      | some l => some (v :: l)
      | none => none
    | _ => none

def tupI : List IV → IV
  | [v] => v
  | vs => .tup vs

/-- How many names a call has, so many calls deep (odd, so that names differ in their last bits). -/
def szI (d : Nat) : Nat := 1099511627791 ^ d
theorem szI_pos (d : Nat) : 0 < szI d := Nat.pow_pos (by decide)

/-- The reading of a call: so many calls deep. -/
noncomputable def runI (P : Program) (fuel : Nat) : Nat → CallI
  | 0, _, _, _, _ => none
  | d + 1, lo, g, args, h => match P.funcs[g]? with
    | none => none
    | some fn => match fn.body with
      | none => none
      | some code => bif fn.name == "runtime.NumGoroutine" then none else bif Nat.ble args.length fn.ntmps then
        (match execI P (runI P fuel d) fn.ntmps (szI d) (lo + szI (d + 1)) fuel code lo ⟨TT.args args 0 .nil, h⟩ with
        | some (.nrm, _, S') => match resI P S' fn.results.toList with
          | some vs => some (tupI vs, S'.h)
          | none => none
        | some (.rtn, _, S') => match resI P S' fn.results.toList with
          | some vs => some (tupI vs, S'.h)
          | none => none
        | _ => none) else none

theorem resI_ok {S : IS} : ∀ (rs : List ResultVar) (vs : List IV), resI P S rs = some vs → (∀ I, SupS I S → ∀ v ∈ vs, SupV I v) ∧
    ∀ ρ (S0 : St), DS ρ S (look S0.t) S0.h → ∀ K : List SV → Prop, K (vs.map (IV.den ρ)) → resL P S0 rs K
  | [], vs, h => by cases h; exact ⟨fun I H v hv => (by cases hv), fun ρ S0 Dd K hK => hK⟩
  | .tmp t :: r, vs, h => by
    simp only [resI] at h
    split at h
    · rename_i l hl
      cases h
      obtain ⟨i1, i2⟩ := resI_ok r l hl
      refine ⟨fun I H v hv => ?_, fun ρ S0 Dd K hK => ?_⟩
      · rcases List.mem_cons.1 hv with rfl | hv
        · exact H.t t
        · exact i1 I H v hv
      · rw [resL_tmp]
        refine i2 ρ S0 Dd _ ?_
        rw [Dd.t t]
        exact hK
    · cases h
  | .cell x t :: r, vs, h => by
    simp only [resI] at h
    split at h
    · rename_i v hv
      split at h
      · rename_i l hl
        cases h
        obtain ⟨i1, i2⟩ := resI_ok r l hl
        have hval : valI P (.load t (.tmp x)) S.ev S.h = .ok v := hv
        refine ⟨fun I H u hu => ?_, fun ρ S0 Dd K hK => ?_⟩
        · rcases List.mem_cons.1 hu with rfl | hu
          · have := valI_sup (P := P) (op := .load t (.tmp x)) H
            rw [hval] at this
            exact this
          · exact i1 I H u hu
        · have := valI_ok (P := P) (op := .load t (.tmp x)) (ε := S.ev) (e := evF (look S0.t)) Dd.ev Dd.hd
          rw [hval] at this
          obtain ⟨pre, h1, h2⟩ := this
          exact resL_cell h1 h2 (i2 ρ S0 Dd _ hK)
      · cases h
    · cases h

theorem tupI_den (ρ : Nat → Nat) (vs : List IV) : tupOf (vs.map (IV.den ρ)) = (tupI vs).den ρ := by
  match vs with
  | [] => rfl
  | [v] => rfl
  | u :: v :: r => simp only [tupI, IV.den, IV.denL_map]; rfl

theorem runI_ok (hm : P.follows .mixedOrders = true) (fuel : Nat) : ∀ d, CallOK P (runI P fuel d) (szI d)
  | 0 => fun lo g args h r h' hc => by cases hc
  | d + 1 => fun lo g args h r h' hc I hI hargs H => by
    have ih := runI_ok hm fuel d
    simp only [runI] at hc
    split at hc
    · cases hc
    · rename_i fn hfn
      split at hc
      · cases hc
      · rename_i code hcode
        cases hname : fn.name == "runtime.NumGoroutine" with
        | true => rw [hname] at hc; cases hc
        | false =>
          rw [hname] at hc
          simp only [cond_false] at hc
          cases hlen : Nat.ble args.length fn.ntmps with
          | false => rw [hlen] at hc; cases hc
          | true =>
            rw [hlen] at hc
            simp only [cond_true] at hc
            have getA : ∀ i, (TT.args args 0 .nil).get i = args.getD i .any := fun i => by
              rw [TT.get_args]
              split
              · rw [Nat.sub_zero]
              · rw [List.getD_eq_getElem?_getD, List.getElem?_eq_none (by omega)]; rfl
            have H0 : SupS I ⟨TT.args args 0 .nil, h⟩ := ⟨fun i => by show SupV I ((TT.args args 0 .nil).get i); rw [getA]; exact SupV.getD hargs i, H.n, H.h⟩
            have D0 : ∀ ρ HH, HD ρ h HH → DS ρ ⟨TT.args args 0 .nil, h⟩ (look (⟨argT 0 (args.map (IV.den ρ)), HH⟩ : St).t) HH := fun ρ HH hd => ⟨fun i => by
              show look (argT 0 _) i = _
              rw [look_argT _ 0 i (Nat.zero_le _), Nat.sub_zero, den_getD]
              show _ = ((TT.args args 0 .nil).get i).den ρ
              rw [getA], hd⟩
            have main : ∀ (e : IX) (c' : Nat) (S' : IS) (vs : List IV), (e = .nrm ∨ e = .rtn) → execI P (runI P fuel d) fn.ntmps (szI d) (lo + szI (d + 1)) fuel code lo ⟨TT.args args 0 .nil, h⟩ = some (e, c', S') →
                resI P S' fn.results.toList = some vs → SupV (Plus I lo (szI (d + 1))) (tupI vs) ∧ SupS (Plus I lo (szI (d + 1))) ⟨.nil, S'.h⟩ ∧
                ∀ ρ HH, HD ρ h HH → Call P g (args.map (IV.den ρ)) HH (fun R H' => ∃ ρ', Agr lo (szI (d + 1)) ρ ρ' ∧ R = (tupI vs).den ρ' ∧ HD ρ' S'.h H') := fun e c' S' vs he hx hvs => by
              obtain ⟨a1, a2, a3, a4⟩ := execI_ok hm ih (szI_pos _) _ _ _ _ _ _ _ hx I (Nat.le_add_right _ _) hI H0
              obtain ⟨v1, v2⟩ := resI_ok _ _ hvs
              have wid : ∀ n, Plus I lo (c' - lo) n → Plus I lo (szI (d + 1)) n := fun n hn => hn.imp id fun x => ⟨x.1, by omega⟩
              have s1 := a3.mono wid
              have hv := v1 _ s1
              refine ⟨?_, ⟨fun i => .any _, s1.n, s1.h⟩, fun ρ HH hd => ?_⟩
              · intro ρ ρ' ee
                rw [← tupI_den, ← tupI_den, map_den_eq hv ee]
              · refine Call.enter hfn hcode hname (by rw [List.length_map]; exact Nat.le_of_ble_eq_true hlen) (a4 ρ _ (D0 ρ HH hd) _ fun ρ' S1 g1 d1 => ?_)
                have fin : ∃ S2, S1.le S2 ∧ resL P S2 fn.results.toList (fun vs' => ∃ ρ', Agr lo (szI (d + 1)) ρ ρ' ∧ tupOf vs' = (tupI vs).den ρ' ∧ HD ρ' S'.h S2.h) := by
                  refine ⟨S1, .refl _, v2 ρ' S1 d1 _ ⟨ρ', fun n hn => g1 n (fun x => hn ⟨x.1, by omega⟩), tupI_den _ _, d1.hd⟩⟩
                rcases he with rfl | rfl
                · exact fin
                · exact fin
            split at hc
            · rename_i c' S' hx
              split at hc
              · rename_i vs hvs
                cases hc
                exact main _ _ _ _ (.inl rfl) hx hvs
              · cases hc
            · rename_i c' S' hx
              split at hc
              · rename_i vs hvs
                cases hc
                exact main _ _ _ _ (.inr rfl) hx hvs
              · cases hc
            · cases hc

/-- Does a call with these plain values read so? -/
noncomputable def readsI (P : Program) (fuel d : Nat) (g : FuncId) (args : List Value) (b : Bool) : Bool := match runI P fuel d 0 g (args.map .sc) [] with
  | some (.sc (.bool c), _) => c == b
  | _ => false

/-- **A call that reads so is so.** -/
theorem pcall_of_reads (hm : P.follows .mixedOrders = true) {fuel d : Nat} {g : FuncId} {args : List Value} {b : Bool} (h : readsI P fuel d g args b = true) : PCall P g (args.map .sc) (.sc (.bool b)) := by
  unfold readsI at h
  split at h
  · rename_i c h' hr
    rw [beq_iff_eq] at h
    subst h
    obtain ⟨_, _, hc⟩ := runI_ok hm fuel d _ _ _ _ _ _ hr (fun _ => False) (fun n _ _ x => x) (fun v hv => by obtain ⟨x, _, rfl⟩ := List.mem_map.1 hv; exact .sc _ _) ⟨fun i => .any _, fun x hx => (by cases hx), fun x hx => (by cases hx)⟩
    have := hc id [] (hd_nil id)
    rw [map_sc_den] at this
    refine Call.le (fun b x => x) (fun M w vs own hr => ⟨own, hr⟩) ?_
    refine ⟨this.1, fun M w vs own hr => (this.2 M w vs own hr).mono fun e w' ⟨v, r, h'', h1, ⟨ρ', _, h2, _⟩, h3, h4, h5, h6⟩ => ?_⟩
    subst h2
    cases h3
    exact ⟨_, _, [], h1, ⟨rfl, rfl⟩, .sc _, h4.sub (by simp) (fun x hx => (by cases hx)), h5, fun b ⟨k, hk⟩ => by cases hk⟩
  · cases h

end
end Go.Ab
