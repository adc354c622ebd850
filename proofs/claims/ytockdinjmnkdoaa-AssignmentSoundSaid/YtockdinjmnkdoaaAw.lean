/- One step of the reading, and its soundness. -/
import Derived.Test.YtockdinjmnkdoaaAv
set_option linter.unusedVariables false
set_option linter.unusedSimpArgs false
namespace Go.Ab
open Go.RowKit

/-- Temporaries, by the bits of their numbers. -/
inductive TT where
  | nil
  | node (v : IV) (l r : TT)

noncomputable def TT.get (t : TT) : Nat → IV := TT.rec (motive := fun _ => Nat → IV) (fun _ => .any)
  (fun v _ _ gl gr i => Nat.rec (motive := fun _ => IV) v (fun j _ => Bool.rec (motive := fun _ => IV) (gr (Nat.div j 2)) (gl (Nat.div j 2)) (Nat.beq (Nat.mod j 2) 0)) i) t

/-- A tree with one value, so deep at most. -/
noncomputable def TT.one (f : Nat) : Nat → IV → TT := Nat.rec (motive := fun _ => Nat → IV → TT) (fun _ v => .node v .nil .nil)
  (fun _ ih i v => Nat.rec (motive := fun _ => TT) (.node v .nil .nil) (fun j _ => Bool.rec (motive := fun _ => TT) (.node .any .nil (ih (Nat.div j 2) v)) (.node .any (ih (Nat.div j 2) v) .nil) (Nat.beq (Nat.mod j 2) 0)) i) f

noncomputable def TT.set (t : TT) : Nat → IV → TT := TT.rec (motive := fun _ => Nat → IV → TT) (fun i v => TT.one i i v)
  (fun x l r sl sr i v => Nat.rec (motive := fun _ => TT) (.node v l r) (fun j _ => Bool.rec (motive := fun _ => TT) (.node x l (sr (Nat.div j 2) v)) (.node x (sl (Nat.div j 2) v) r) (Nat.beq (Nat.mod j 2) 0)) i) t

theorem TT.get_nil (i : Nat) : TT.get .nil i = .any := rfl
theorem TT.get_zero (v : IV) (l r : TT) : (TT.node v l r).get 0 = v := rfl
theorem TT.get_succ (v : IV) (l r : TT) (j : Nat) : (TT.node v l r).get (j + 1) = bif Nat.beq (j % 2) 0 then l.get (j / 2) else r.get (j / 2) := by
  show Bool.rec (motive := fun _ => IV) (r.get (j / 2)) (l.get (j / 2)) (Nat.beq (j % 2) 0) = _
  cases Nat.beq (j % 2) 0 <;> rfl
theorem TT.set_zero (v x : IV) (l r : TT) : (TT.node x l r).set 0 v = .node v l r := rfl
theorem TT.set_succ (v x : IV) (l r : TT) (j : Nat) : (TT.node x l r).set (j + 1) v = bif Nat.beq (j % 2) 0 then .node x (l.set (j / 2) v) r else .node x l (r.set (j / 2) v) := by
  show Bool.rec (motive := fun _ => TT) (.node x l (r.set (j / 2) v)) (.node x (l.set (j / 2) v) r) (Nat.beq (j % 2) 0) = _
  cases Nat.beq (j % 2) 0 <;> rfl
theorem TT.one_zero (f : Nat) (v : IV) : TT.one f 0 v = .node v .nil .nil := by cases f <;> rfl
theorem TT.one_succ (f j : Nat) (v : IV) : TT.one (f + 1) (j + 1) v = bif Nat.beq (j % 2) 0 then .node .any (TT.one f (j / 2) v) .nil else .node .any .nil (TT.one f (j / 2) v) := by
  show Bool.rec (motive := fun _ => TT) (.node .any .nil (TT.one f (j / 2) v)) (.node .any (TT.one f (j / 2) v) .nil) (Nat.beq (j % 2) 0) = _
  cases Nat.beq (j % 2) 0 <;> rfl

theorem half_inj {i j : Nat} (h : Nat.beq (i % 2) 0 = Nat.beq (j % 2) 0) : (i / 2 = j / 2) ↔ i = j := by
  constructor
  · intro e
    have h1 : i % 2 = j % 2 := by
      have hi : i % 2 = 0 ∨ i % 2 = 1 := by omega
      have hj : j % 2 = 0 ∨ j % 2 = 1 := by omega
      rcases hi with hi | hi <;> rcases hj with hj | hj <;> rw [hi, hj] at h <;> first | omega | (cases h)
    omega
  · intro e; rw [e]

theorem TT.get_one : ∀ (f i j : Nat) (v : IV), i ≤ f → (TT.one f i v).get j = if i = j then v else .any := by
  intro f
  induction f with
  | zero =>
    intro i j v hi
    obtain rfl : i = 0 := by omega
    cases j with
    | zero => rfl
    | succ j => rw [TT.one_zero, TT.get_succ]; cases Nat.beq (j % 2) 0 <;> simp [TT.get_nil]
  | succ f ih =>
    intro i j v hi
    cases i with
    | zero =>
      cases j with
      | zero => rw [TT.one_zero]; rfl
      | succ j => rw [TT.one_zero, TT.get_succ]; cases Nat.beq (j % 2) 0 <;> simp [TT.get_nil]
    | succ i =>
      rw [TT.one_succ]
      cases j with
      | zero => cases Nat.beq (i % 2) 0 <;> simp [TT.get_zero]
      | succ j =>
        cases hb : Nat.beq (i % 2) 0 <;> cases hc : Nat.beq (j % 2) 0
        · simp only [cond_false, TT.get_succ, hc, ih _ _ _ (show i / 2 ≤ f by omega), half_inj (hb.trans hc.symm), Nat.add_right_cancel_iff]
        · have : i ≠ j := fun e => by rw [e, hc] at hb; cases hb
          simp [TT.get_succ, hc, TT.get_nil, this]
        · have : i ≠ j := fun e => by rw [e, hc] at hb; cases hb
          simp [TT.get_succ, hc, TT.get_nil, this]
        · simp only [cond_true, TT.get_succ, hc, ih _ _ _ (show i / 2 ≤ f by omega), half_inj (hb.trans hc.symm), Nat.add_right_cancel_iff]

theorem TT.get_set : ∀ (t : TT) (i j : Nat) (v : IV), (t.set i v).get j = if i = j then v else t.get j := by
  intro t
  induction t with
  | nil => intro i j v; rw [TT.get_nil]; exact TT.get_one i i j v (Nat.le_refl _)
  | node x l r ihl ihr =>
    intro i j v
    cases i with
    | zero =>
      cases j with
      | zero => rfl
      | succ j => simp [TT.set_zero, TT.get_succ]
    | succ i =>
      rw [TT.set_succ]
      cases j with
      | zero => cases Nat.beq (i % 2) 0 <;> simp [TT.get_zero]
      | succ j =>
        cases hb : Nat.beq (i % 2) 0 <;> cases hc : Nat.beq (j % 2) 0
        · simp only [cond_false, TT.get_succ, hc, ihr, half_inj (hb.trans hc.symm), Nat.add_right_cancel_iff]
        · have : i ≠ j := fun e => by rw [e, hc] at hb; cases hb
          simp [TT.get_succ, hc, this]
        · have : i ≠ j := fun e => by rw [e, hc] at hb; cases hb
          simp [TT.get_succ, hc, this]
        · simp only [cond_true, TT.get_succ, hc, ihl, half_inj (hb.trans hc.symm), Nat.add_right_cancel_iff]

theorem TT.bound : ∀ t : TT, ∃ n, ∀ i, n ≤ i → t.get i = .any := by
  intro t
  induction t with
  | nil => exact ⟨0, fun _ _ => rfl⟩
  | node x l r ihl ihr =>
    obtain ⟨a, ha⟩ := ihl
    obtain ⟨b, hb⟩ := ihr
    refine ⟨2 * (a + b) + 2, fun i hi => ?_⟩
    cases i with
    | zero => omega
    | succ i =>
      rw [TT.get_succ]
      cases Nat.beq (i % 2) 0
      · exact hb _ (by omega)
      · exact ha _ (by omega)

noncomputable def TT.args : List IV → Nat → TT → TT
  | [], _, t => t
  | x :: r, i, t => TT.args r (i + 1) (t.set i x)

theorem TT.get_args : ∀ (l : List IV) (i : Nat) (t : TT) (j : Nat), (TT.args l i t).get j = if i ≤ j ∧ j < i + l.length then l.getD (j - i) .any else t.get j
  | [], i, t, j => by rw [TT.args, if_neg (by simp)]
  | x :: r, i, t, j => by
    rw [TT.args, TT.get_args r (i + 1), TT.get_set]
    by_cases h : i = j
    · subst h
      rw [if_neg (by omega), if_pos rfl, if_pos (by simp)]
      simp
    · by_cases h1 : i + 1 ≤ j ∧ j < i + 1 + r.length
      · rw [if_pos h1, if_pos (by simp; omega), show j - i = (j - (i + 1)) + 1 by omega]
        simp
      · rw [if_neg h1, if_neg h, if_neg (by simp; omega)]

structure IS where
  t : TT
  h : IHeap

noncomputable def IS.get (S : IS) (i : Nat) : IV := S.t.get i
noncomputable def IS.put (S : IS) (d : Option Tmp) (v : IV) : IS := match d with
  | some d => ⟨S.t.set d v, S.h⟩
  | none => S

noncomputable def IS.ev (S : IS) : Operand → IV
  | .tmp i => S.get i
  | .const v => .sc v
  | .global _ => .any
  | .func f => .fn (.func f) [] []

/-- The temporaries and the owned blocks are as is said. -/
structure DS (ρ : Nat → Nat) (S : IS) (T : Nat → SV) (h : Heap) : Prop where
  t : ∀ i, T i = (S.get i).den ρ
  hd : HD ρ S.h h

theorem DS.ev {ρ : Nat → Nat} {S : IS} {T : Nat → SV} {h : Heap} (H : DS ρ S T h) (x : Operand) : evF T x = (S.ev x).den ρ := by
  cases x with
  | tmp i => exact H.t i
  | const v => rfl
  | global g => rfl
  | func f => rfl

theorem put_h (S : IS) (d : Option Tmp) (v : IV) : (S.put d v).h = S.h := by cases d <;> rfl

theorem put_get (S : IS) (d : Option Tmp) (v : IV) (i : Nat) : (S.put d v).get i = if d = some i then v else S.get i := by
  cases d with
  | none => simp [IS.put]
  | some d => simp only [IS.put, IS.get, TT.get_set, Option.some.injEq]

theorem putF_if (T : Nat → SV) (d : Option Tmp) (v : SV) (i : Nat) : putF T d v i = if d = some i then v else T i := by
  cases d with
  | none => simp [putF]
  | some d =>
    simp only [putF, Option.some.injEq]
    by_cases h : d = i
    · subst h; simp
    · rw [show Nat.beq d i = false by rw [← Bool.not_eq_true, Nat.beq_eq]; exact h]; simp [h]

theorem DS.put {ρ : Nat → Nat} {S : IS} {T : Nat → SV} {h : Heap} (H : DS ρ S T h) (d : Option Tmp) (v : IV) : DS ρ (S.put d v) (putF T d (v.den ρ)) h where
  t := fun i => by
    rw [putF_if, put_get]
    split
    · rfl
    · exact H.t i
  hd := by rw [put_h]; exact H.hd

/-! ### the names on which something hangs -/
def SupV (I : Nat → Prop) (v : IV) : Prop := ∀ ρ ρ' : Nat → Nat, (∀ n, I n → ρ n = ρ' n) → v.den ρ = v.den ρ'

structure SupS (I : Nat → Prop) (S : IS) : Prop where
  t : ∀ i, SupV I (S.get i)
  n : ∀ x ∈ S.h, I x.1
  h : ∀ x ∈ S.h, ∀ c ∈ x.2, SupV I c

theorem SupV.mono {I J : Nat → Prop} (hIJ : ∀ n, I n → J n) {v : IV} (h : SupV I v) : SupV J v := fun ρ ρ' e => h ρ ρ' fun n hn => e n (hIJ n hn)
theorem SupS.mono {I J : Nat → Prop} (hIJ : ∀ n, I n → J n) {S : IS} (h : SupS I S) : SupS J S := ⟨fun i => (h.t i).mono hIJ, fun x hx => hIJ _ (h.n x hx), fun x hx c hc => (h.h x hx c hc).mono hIJ⟩

theorem SupV.any (I : Nat → Prop) : SupV I .any := fun _ _ _ => rfl
theorem SupV.sc (I : Nat → Prop) (v : Value) : SupV I (.sc v) := fun _ _ _ => rfl

theorem SupS.ev {I : Nat → Prop} {S : IS} (H : SupS I S) (x : Operand) : SupV I (S.ev x) := by
  cases x with
  | tmp i => exact H.t i
  | const v => exact .sc _ _
  | global g => exact .any _
  | func f => exact fun _ _ _ => rfl

theorem SupS.put {I : Nat → Prop} {S : IS} (H : SupS I S) (d : Option Tmp) {v : IV} (hv : SupV I v) : SupS I (S.put d v) where
  t := fun i => by
    rw [put_get]
    split
    · exact hv
    · exact H.t i
  n := by rw [put_h]; exact H.n
  h := by rw [put_h]; exact H.h

theorem map_den_eq {I : Nat → Prop} {l : List IV} (h : ∀ c ∈ l, SupV I c) {ρ ρ' : Nat → Nat} (e : ∀ n, I n → ρ n = ρ' n) : l.map (IV.den ρ) = l.map (IV.den ρ') :=
  List.map_congr_left fun c hc => h c hc ρ ρ' e

theorem SupV.getD {I : Nat → Prop} {l : List IV} (h : ∀ c ∈ l, SupV I c) (i : Nat) : SupV I (l.getD i .any) := by
  rw [List.getD_eq_getElem?_getD]
  cases he : l[i]? with
  | none => exact .any _
  | some x => exact h x (List.mem_of_getElem? he)

theorem hd_nil (ρ : Nat → Nat) : HD ρ [] [] where
  nd := by simp [Nd]
  ind := by simp [INd]
  inj := fun x hx => by cases hx
  back := fun b ⟨k, hk⟩ => by cases hk
  find := fun x hx => by cases hx

theorem valI_nil {P : Program} {op : Op} {ε : Operand → IV} {ih : IHeap} (hl : ∀ t x, op ≠ .load t x) : valI P op ε ih = valI P op ε [] := by
  cases op with
  | load t x => exact absurd rfl (hl t x)
  | call c => unfold valI; split <;> first | rfl | simp_all
  | _ => rfl

theorem agg_sup {I : Nat → Prop} {l : List IV} (h : ∀ c ∈ l, SupV I c) : SupV I (.agg l) := fun ρ ρ' e => by
  simp only [IV.den, IV.denL_map, map_den_eq h e]

theorem bif_not_new {c : Bool} {r r' : IRes} {cs : List IV} {mk : Nat → IV} (h1 : r ≠ .new cs mk) (h2 : r' ≠ .new cs mk) : (bif c then r else r') ≠ .new cs mk := by
  cases c
  · exact h2
  · exact h1

theorem load_not_new (T : Option (Bool × Nat)) (x : IV) (h : IHeap) (cs : List IV) (mk : Nat → IV) : loadIV T x h ≠ .new cs mk := by
  unfold loadIV
  split
  · split
    · exact bif_not_new (bif_not_new (fun e => by cases e) (fun e => by cases e)) (bif_not_new (fun e => by cases e) (fun e => by cases e))
    · exact fun e => by cases e
  · exact fun e => by cases e

/-- **Nothing comes out that did not go in.** -/
theorem valI_sup {P : Program} {op : Op} {S : IS} {I : Nat → Prop} (H : SupS I S) : match valI P op S.ev S.h with
    | .bad => True
    | .ok v => SupV I v
    | .new cs mk => (∀ c ∈ cs, SupV I c) ∧ ∀ n, SupV (fun m => m = n) (mk n) := by
  by_cases hl : ∃ t x, op = .load t x
  · obtain ⟨t, x, rfl⟩ := hl
    have hx := H.ev x
    simp only [valI]
    unfold loadIV
    split
    · trivial
    · rename_i v hv
      split at hv
      · rename_i g n b off _ _
        split at hv
        · rename_i k hk
          have hc := H.h _ (ifind_mem hk)
          cases g
          · simp only [cond_false] at hv
            cases hb : Nat.blt off k.length with
            | true => rw [hb] at hv; cases hv; exact .getD hc _
            | false => rw [hb] at hv; cases hv
          · simp only [cond_true] at hv
            cases hb : Nat.ble (off + n) k.length with
            | true => rw [hb] at hv; cases hv; exact agg_sup fun c hm => hc c (List.mem_of_mem_drop (List.mem_of_mem_take hm))
            | false => rw [hb] at hv; cases hv
        · cases hv
      · cases hv
    · rename_i cs mk hv
      exact absurd hv (load_not_new _ _ _ _ _)
  · have hl' : ∀ t x, op ≠ .load t x := fun t x e => hl ⟨t, x, e⟩
    rw [valI_nil hl']
    have m := fun ρ => valI_ok (P := P) (op := op) (ε := S.ev) (e := fun x => (S.ev x).den ρ) (ρ := ρ) (fun _ => rfl) (hd_nil ρ)
    have ee : ∀ ρ ρ' : Nat → Nat, (∀ n, I n → ρ n = ρ' n) → (fun x => (S.ev x).den ρ) = (fun x => (S.ev x).den ρ') := fun ρ ρ' e => funext fun x => H.ev x ρ ρ' e
    generalize hR : valI P op S.ev [] = R at m
    cases R with
    | bad => trivial
    | ok v =>
      intro ρ ρ' e
      obtain ⟨p1, h1, _⟩ := m ρ
      obtain ⟨p2, h2, _⟩ := m ρ'
      rw [ee ρ ρ' e, h2] at h1
      injection h1 with _ h1
      exact h1.symm
    | new cs mk =>
      refine ⟨fun c hc ρ ρ' e => ?_, fun n ρ ρ' e => ?_⟩
      · obtain ⟨p1, k1, f1, h1, _, c1, _⟩ := m ρ
        obtain ⟨p2, k2, f2, h2, _, c2, _⟩ := m ρ'
        rw [ee ρ ρ' e, h2] at h1
        cases h1
        rw [c1] at c2
        obtain ⟨i, hi, rfl⟩ := List.mem_iff_getElem.1 hc
        have := congrArg (fun l => l.getD i .any) c2
        simp only [den_getD] at this
        rw [getD_list _ _ _ hi] at this
        exact this
      · obtain ⟨p1, k1, f1, h1, _, c1, m1⟩ := m ρ
        rw [← m1 ρ n, ← m1 ρ' n, e n rfl]

/-! ### names and blocks -/
def Agr (lo sz : Nat) (ρ ρ' : Nat → Nat) : Prop := ∀ n, ¬ (lo ≤ n ∧ n < lo + sz) → ρ' n = ρ n
theorem Agr.refl (lo sz : Nat) (ρ : Nat → Nat) : Agr lo sz ρ ρ := fun _ _ => rfl
def Out (I : Nat → Prop) (lo sz : Nat) : Prop := ∀ n, lo ≤ n → n < lo + sz → ¬ I n
def Plus (I : Nat → Prop) (lo sz : Nat) : Nat → Prop := fun n => I n ∨ (lo ≤ n ∧ n < lo + sz)

theorem Agr.on {lo sz : Nat} {ρ ρ' : Nat → Nat} {I : Nat → Prop} (h : Agr lo sz ρ ρ') (hI : Out I lo sz) : ∀ n, I n → ρ n = ρ' n := fun n hn => (h n (fun x => hI n x.1 x.2 hn)).symm

theorem hd_agree {ρ ρ' : Nat → Nat} {I : Nat → Prop} {ih : IHeap} {h : Heap} (H : HD ρ ih h) (hn : ∀ x ∈ ih, I x.1) (hs : ∀ x ∈ ih, ∀ c ∈ x.2, SupV I c) (e : ∀ n, I n → ρ n = ρ' n) : HD ρ' ih h where
  nd := H.nd
  ind := H.ind
  inj := fun x hx y hy he => H.inj x hx y hy (by rw [e _ (hn x hx), e _ (hn y hy)]; exact he)
  back := fun b hb => by obtain ⟨x, hx, hb⟩ := H.back b hb; exact ⟨x, hx, by rw [← e _ (hn x hx)]; exact hb⟩
  find := fun x hx => by
    obtain ⟨k, h1, h2⟩ := H.find x hx
    exact ⟨k, by rw [← e _ (hn x hx)]; exact h1, by rw [h2]; exact map_den_eq (hs x hx) e⟩

theorem DS.agree {ρ ρ' : Nat → Nat} {I : Nat → Prop} {S : IS} {T : Nat → SV} {h : Heap} (H : DS ρ S T h) (hs : SupS I S) (e : ∀ n, I n → ρ n = ρ' n) : DS ρ' S T h :=
  ⟨fun i => by rw [H.t i]; exact hs.t i ρ ρ' e, hd_agree H.hd hs.n hs.h e⟩

theorem Heap.find_none {h : Heap} {b : Nat} (hn : h.find b = none) : ¬ h.has b := by
  rintro ⟨k, hk⟩
  induction h with
  | nil => cases hk
  | cons x r ih =>
    obtain ⟨c, k'⟩ := x
    simp only [Heap.find] at hn
    split at hn
    · cases hn
    · rename_i hc
      rcases List.mem_cons.1 hk with hk | hk
      · cases hk; exact hc rfl
      · exact ih hn hk

def upn (ρ : Nat → Nat) (nm b : Nat) : Nat → Nat := fun n => if n = nm then b else ρ n
theorem upn_same (ρ : Nat → Nat) (nm b : Nat) : upn ρ nm b nm = b := by simp [upn]
theorem upn_other {ρ : Nat → Nat} {nm b n : Nat} (h : n ≠ nm) : upn ρ nm b n = ρ n := by simp [upn, h]
theorem upn_agr {ρ : Nat → Nat} {nm b sz : Nat} (hsz : 0 < sz) : Agr nm sz ρ (upn ρ nm b) := fun n hn => upn_other (fun e => hn ⟨by omega, by omega⟩)

theorem iins_nd {ih : IHeap} {nm : Nat} {cs : List IV} (hn : INd ih) (hx : ∀ x ∈ ih, x.1 ≠ nm) : INd (iins ih nm cs) := by
  unfold INd at *
  induction ih with
  | nil => simp [iins]
  | cons y r ihh =>
    obtain ⟨c, k⟩ := y
    rw [List.map_cons, List.nodup_cons] at hn
    simp only [iins]
    cases Nat.ble c nm with
    | true =>
      simp only [cond_true, List.map_cons, List.nodup_cons, List.mem_cons, not_or]
      refine ⟨⟨Ne.symm (hx _ List.mem_cons_self), fun hm => ?_⟩, hn⟩
      obtain ⟨x, hxm, he⟩ := List.mem_map.1 hm
      exact hx x (List.mem_cons_of_mem _ hxm) he
    | false =>
      simp only [cond_false, List.map_cons, List.nodup_cons]
      refine ⟨fun hm => ?_, ihh hn.2 (fun x hxm => hx x (List.mem_cons_of_mem _ hxm))⟩
      obtain ⟨x, hxm, he⟩ := List.mem_map.1 hm
      rcases mem_iins.1 hxm with rfl | hxm
      · exact hx _ List.mem_cons_self he.symm
      · exact hn.1 (List.mem_map.2 ⟨x, hxm, he⟩)

/-- A new block has a new name. -/
theorem HD.new {ρ : Nat → Nat} {I : Nat → Prop} {ih : IHeap} {h : Heap} {nm b : Nat} {k : Blk} {cs : List IV} (H : HD ρ ih h) (hn : ∀ x ∈ ih, I x.1) (hs : ∀ x ∈ ih, ∀ c ∈ x.2, SupV I c) (hI : ¬ I nm) (hc : ∀ c ∈ cs, SupV I c)
    (hf : fresh h b) (hk : k.cells = cs.map (IV.den ρ)) : HD (upn ρ nm b) (iins ih nm cs) ((b, k) :: h) := by
  have e : ∀ n, I n → ρ n = upn ρ nm b n := fun n hn => (upn_other (fun e => hI (by rw [← e]; exact hn))).symm
  have hne : ∀ x ∈ ih, x.1 ≠ nm := fun x hx e => hI (by rw [← e]; exact hn x hx)
  have H' := hd_agree H hn hs e
  have hb : ∀ x ∈ ih, ρ x.1 ≠ b := fun x hx he => by
    obtain ⟨k', h1, _⟩ := H.find x hx
    exact not_has_of_fresh hf ⟨k', he ▸ Heap.find_mem h1⟩
  refine ⟨nd_cons H.nd hf, iins_nd H.ind hne, fun x hx y hy he => ?_, fun c hc' => ?_, fun x hx => ?_⟩
  · rcases mem_iins.1 hx with rfl | hx
    · rcases mem_iins.1 hy with rfl | hy
      · rfl
      · rw [upn_same, ← e _ (hn y hy)] at he; exact absurd he.symm (hb y hy)
    · rcases mem_iins.1 hy with rfl | hy
      · rw [upn_same, ← e _ (hn x hx)] at he; exact absurd he (hb x hx)
      · exact H'.inj x hx y hy he
  · rcases has_cons.1 hc' with rfl | hc'
    · exact ⟨_, mem_iins.2 (.inl rfl), upn_same _ _ _⟩
    · obtain ⟨x, hx, hh⟩ := H'.back c hc'; exact ⟨x, mem_iins.2 (.inr hx), hh⟩
  · rcases mem_iins.1 hx with rfl | hx
    · exact ⟨k, by simp only [upn_same]; simp [Heap.find], by rw [hk]; exact map_den_eq hc e⟩
    · obtain ⟨k', h1, h2⟩ := H'.find x hx
      refine ⟨k', ?_, h2⟩
      simp only [Heap.find]
      rw [if_neg (fun he => hb x hx (by rw [e _ (hn x hx)]; exact he.symm))]
      exact h1

theorem find_upd {h : Heap} {b c : Nat} {k k0 : Blk} (hf : h.find b = some k0) : (h.upd b k).find c = if c = b then some k else h.find c := by
  induction h with
  | nil => cases hf
  | cons x r ih =>
    obtain ⟨d, k'⟩ := x
    simp only [Heap.find] at hf
    simp only [Heap.upd]
    by_cases hd : d = b
    · subst hd
      rw [if_pos rfl]
      simp only [Heap.find]
      by_cases hc : d = c
      · subst hc; simp
      · rw [if_neg hc, if_neg (Ne.symm hc), if_neg hc]
    · rw [if_neg hd] at hf ⊢
      simp only [Heap.find]
      rw [ih hf]
      by_cases hc : d = c
      · subst hc; simp [hd]
      · simp [hc]

theorem HD.upd {ρ : Nat → Nat} {ih : IHeap} {h : Heap} {n : Nat} {k0 k : Blk} {c0 cs : List IV} (H : HD ρ ih h) (hi : ifind ih n = some c0) (hf : h.find (ρ n) = some k0) (hk : k.cells = cs.map (IV.den ρ)) :
    HD ρ (iupd ih n cs) (h.upd (ρ n) k) := by
  have hm := ifind_mem hi
  have im : ∀ x, x ∈ iupd ih n cs ↔ x = (n, cs) ∨ (x ∈ ih ∧ x.1 ≠ n) := fun x => mem_iupd_iff H.ind hm
  have fst : ∀ x ∈ iupd ih n cs, ∃ y ∈ ih, y.1 = x.1 := fun x hx => by
    rcases (im x).1 hx with rfl | ⟨hx, _⟩
    · exact ⟨_, hm, rfl⟩
    · exact ⟨x, hx, rfl⟩
  refine ⟨by unfold Nd; rw [map_upd]; exact H.nd, by unfold INd; rw [iupd_fst]; exact H.ind, fun x hx y hy he => ?_, fun b hb => ?_, fun x hx => ?_⟩
  · obtain ⟨x', hx', ex⟩ := fst x hx
    obtain ⟨y', hy', ey⟩ := fst y hy
    rw [← ex, ← ey] at he ⊢
    exact H.inj x' hx' y' hy' he
  · obtain ⟨x, hx, he⟩ := H.back b (has_upd.1 hb)
    by_cases hxn : x.1 = n
    · exact ⟨_, (im _).2 (.inl rfl), by rw [← he, hxn]⟩
    · exact ⟨x, (im x).2 (.inr ⟨hx, hxn⟩), he⟩
  · rcases (im x).1 hx with rfl | ⟨hx, hxn⟩
    · exact ⟨k, by rw [find_upd hf, if_pos rfl], hk⟩
    · obtain ⟨k', h1, h2⟩ := H.find x hx
      exact ⟨k', by rw [find_upd hf, if_neg (fun he => hxn (H.inj x hx _ hm he))]; exact h1, h2⟩

theorem find_del {h : Heap} {b c : Nat} (hn : Nd h) (hne : c ≠ b) : (h.del b).find c = h.find c := by
  induction h with
  | nil => rfl
  | cons x r ih =>
    obtain ⟨d, k'⟩ := x
    unfold Nd at hn
    rw [List.map_cons, List.nodup_cons] at hn
    simp only [Heap.del]
    split
    · rename_i hd; subst hd; simp only [Heap.find]; rw [if_neg (Ne.symm hne)]
    · simp only [Heap.find, ih hn.2]

theorem idel_nd {ih : IHeap} {n : Nat} (hn : INd ih) : INd (idel ih n) := by
  unfold INd at *
  induction ih with
  | nil => simp [idel]
  | cons y r ihh =>
    obtain ⟨c, k⟩ := y
    rw [List.map_cons, List.nodup_cons] at hn
    simp only [idel]
    cases Nat.beq c n with
    | true => exact ihh hn.2
    | false =>
      simp only [cond_false, List.map_cons, List.nodup_cons]
      refine ⟨fun hm => ?_, ihh hn.2⟩
      obtain ⟨x, hxm, he⟩ := List.mem_map.1 hm
      exact hn.1 (List.mem_map.2 ⟨x, (mem_idel.1 hxm).1, he⟩)

theorem HD.del {ρ : Nat → Nat} {ih : IHeap} {h : Heap} {n : Nat} {c0 : List IV} (H : HD ρ ih h) (hi : ifind ih n = some c0) : HD ρ (idel ih n) (h.del (ρ n)) := by
  have hm := ifind_mem hi
  refine ⟨del_nodup H.nd, idel_nd H.ind, fun x hx y hy => H.inj x (mem_idel.1 hx).1 y (mem_idel.1 hy).1, fun b hb => ?_, fun x hx => ?_⟩
  · obtain ⟨x, hx, he⟩ := H.back b (has_del hb)
    refine ⟨x, mem_idel.2 ⟨hx, fun e => ?_⟩, he⟩
    rw [← he, e] at hb
    exact del_not H.nd hb
  · obtain ⟨hx, hxn⟩ := mem_idel.1 hx
    obtain ⟨k', h1, h2⟩ := H.find x hx
    exact ⟨k', by rw [find_del H.nd (fun he => hxn (H.inj x hx _ hm he))]; exact h1, h2⟩

/-- The owned blocks may be listed in another order. -/
theorem HD.perm {ρ : Nat → Nat} {ih : IHeap} {h h' : Heap} (H : HD ρ ih h) (hn : Nd h') (hm : ∀ x, x ∈ h' ↔ x ∈ h) : HD ρ ih h' :=
  ⟨hn, H.ind, H.inj, fun b ⟨k, hk⟩ => H.back b ⟨k, (hm _).1 hk⟩, fun x hx => by
    obtain ⟨k, h1, h2⟩ := H.find x hx
    exact ⟨k, find_of_mem hn ((hm _).2 (Heap.find_mem h1)), h2⟩⟩

theorem mem_ren_iff {h : Heap} {b b' : Nat} {k0 k : Blk} (hn : Nd h) (hf : h.find b = some k0) (x : Nat × Blk) : x ∈ h.ren b b' k ↔ x ∈ (b', k) :: h.del b := by
  induction h with
  | nil => cases hf
  | cons y r ih =>
    obtain ⟨c, k'⟩ := y
    unfold Nd at hn
    rw [List.map_cons, List.nodup_cons] at hn
    simp only [Heap.find] at hf
    simp only [Heap.ren, Heap.del]
    by_cases hc : c = b
    · rw [if_pos hc, if_pos hc]
    · rw [if_neg hc] at hf
      rw [if_neg hc, if_neg hc]
      simp only [List.mem_cons]
      rw [ih hn.2 hf]
      simp only [List.mem_cons]
      exact ⟨fun h => h.elim (fun h => .inr (.inl h)) (fun h => h.elim .inl (fun h => .inr (.inr h))), fun h => h.elim (fun h => .inr (.inl h)) (fun h => h.elim .inl (fun h => .inr (.inr h)))⟩

end Go.Ab
