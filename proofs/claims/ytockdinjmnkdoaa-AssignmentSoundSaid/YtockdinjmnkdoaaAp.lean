/- Code, loops, the beginning and the end of a function. -/
import Derived.Test.YtockdinjmnkdoaaAo
set_option linter.unusedVariables false
namespace Go.Ab
open Go.RowKit

/-- From the state S the code comes to an exit and a state of which Q holds. -/
def SW (P : Program) (N : Nat) (c : Code) (Q : Exit → St → Prop) (S : St) : Prop :=
  ∀ (M : Nat → Prop) (w0 : World) (D : Nat → Prop) (a : Act) (w : World), Rel M w0 D N S a w → c.wp P (fun e a' w' => ∃ S', Q e S' ∧ Rel M w0 D N S' a' w') a w

/-- What is said in S' is no more than what is said in S. -/
def St.le (S S' : St) : Prop := ∀ (M : Nat → Prop) (w0 : World) (D : Nat → Prop) (N : Nat) (a : Act) (w : World), Rel M w0 D N S a w → Rel M w0 D N S' a w

theorem St.le.refl (S : St) : S.le S := fun _ _ _ _ _ _ h => h
theorem St.le.trans {S S' S'' : St} (h : S.le S') (h' : S'.le S'') : S.le S'' := fun M w0 D N a w r => h' M w0 D N a w (h M w0 D N a w r)

def thn (K : St → Prop) (Q : Exit → St → Prop) : Exit → St → Prop
  | .normal, S => K S
  | e, S => Q e S

def inB (id : Nat) (Q : Exit → St → Prop) : Exit → St → Prop
  | .exit i, S => bif Nat.beq i id then Q .normal S else Q (.exit i) S
  | e, S => Q e S

section
variable {P : Program} {N : Nat} {Q : Exit → St → Prop} {S : St}

theorem SW.mono {c : Code} {Q' : Exit → St → Prop} (h : SW P N c Q S) (hq : ∀ e S, Q e S → Q' e S) : SW P N c Q' S :=
  fun M w0 D a w hr => wp_mono (h M w0 D a w hr) fun e a' w' ⟨S', h1, h2⟩ => ⟨S', hq _ _ h1, h2⟩

theorem SW.le {c : Code} {S' : St} (hl : S.le S') (h : SW P N c Q S') : SW P N c Q S := fun M w0 D a w hr => h M w0 D a w (hl M w0 D N a w hr)

theorem SW.seq {x y : Code} (h : SW P N x (thn (SW P N y Q) Q) S) : SW P N (.seq x y) Q S := fun M w0 D a w hr => by
  refine wp_seq (wp_mono (h M w0 D a w hr) fun e a' w' ⟨S', h1, h2⟩ => ?_)
  cases e with
  | normal => exact h1 M w0 D a' w' h2
  | exit i => exact ⟨S', h1, h2⟩
  | goto l => exact ⟨S', h1, h2⟩
  | ret => exact ⟨S', h1, h2⟩
  | panic c => exact ⟨S', h1, h2⟩
  | outgrown => exact ⟨S', h1, h2⟩

theorem SW.seq_k {x y : Code} (h : ∀ K : St → Prop, (∀ S, SW P N y Q S → K S) → SW P N x (thn K Q) S) : SW P N (.seq x y) Q S := SW.seq (h _ fun _ h => h)

theorem SW.block {id : Nat} {c : Code} (h : SW P N c (inB id Q) S) : SW P N (.block id c) Q S := fun M w0 D a w hr => by
  refine wp_block (wp_mono (h M w0 D a w hr) fun e a' w' ⟨S', h1, h2⟩ => ?_)
  cases e with
  | exit i =>
    simp only [inB] at h1
    show if i = id then _ else _
    by_cases hi : i = id
    · rw [if_pos hi]
      rw [show Nat.beq i id = true by rw [Nat.beq_eq]; exact hi] at h1
      exact ⟨S', h1, h2⟩
    · rw [if_neg hi]
      rw [show Nat.beq i id = false by rw [← Bool.not_eq_true, Nat.beq_eq]; exact hi] at h1
      exact ⟨S', h1, h2⟩
  | normal => exact ⟨S', h1, h2⟩
  | goto l => exact ⟨S', h1, h2⟩
  | ret => exact ⟨S', h1, h2⟩
  | panic c => exact ⟨S', h1, h2⟩
  | outgrown => exact ⟨S', h1, h2⟩

theorem SW.skip (h : Q .normal S) : SW P N .skip Q S := fun _ _ _ _ _ hr => wp_skip ⟨S, h, hr⟩
theorem SW.exit {id : Nat} (h : Q (.exit id) S) : SW P N (.exit id) Q S := fun _ _ _ _ _ hr => wp_exit ⟨S, h, hr⟩
theorem SW.ret (h : Q .ret S) : SW P N .ret Q S := fun _ _ _ _ _ hr => wp_ret ⟨S, h, hr⟩

/-- A condition. -/
def condK (x : SV) (A B : Prop) : Prop := match x with
  | .sc (.bool b) => if b = true then A else B
  | _ => False

theorem SW.cond {c : Operand} {x y : Code} (h : condK (S.ev c) (SW P N x Q S) (SW P N y Q S)) : SW P N (.cond c x y) Q S := fun M w0 D a w hr => by
  unfold condK at h
  split at h
  · rename_i b hb
    have hc := hr.ev c
    rw [hb] at hc
    generalize hv : a.eval c = v at hc
    cases hc
    cases b
    · simp only [Bool.false_eq_true, if_false] at h
      exact wp_cond_false hv (h M w0 D a w hr)
    · simp only [if_true] at h
      exact wp_cond_true hv (h M w0 D a w hr)
  · exact h.elim

theorem SW.region {id : Nat} {l : List Oper} (h : vcOps P N l l (Q .normal) S) : SW P N (.region id l.toArray false) Q S := fun M w0 D a w hr => by
  refine wp_region_list ?_
  simpa using vcOps_sound (K := Q .normal) (Q := fun e a' w' => ∃ S', Q e S' ∧ Rel M w0 D N S' a' w') (fun S a w h hr => ⟨S, h, hr⟩) l S a w h hr

theorem SW.regionD {id : Nat} {l : List Oper} (hm : P.follows .mixedOrders = true) (hB : lexOk l = true) (h : vcD P N l l (Q .normal) S) : SW P N (.region id l.toArray true) Q S := fun M w0 D a w hr =>
  vcD_sound (K := Q .normal) hm hB (fun S a w h hr => ⟨S, h, hr⟩) hr h

/-- **A loop**: I n holds at the head of a round, n sinks. -/
theorem SW.loop {c : Code} (I : Nat → St → Prop) (n : Nat) (h0 : I n S) (round : ∀ n S, I n S → SW P N c (thn (fun S' => ∃ m S'', m < n ∧ S'.le S'' ∧ I m S'') Q) S) : SW P N (.loop c) Q S := fun M w0 D a w hr => by
  let J : Act → World → Prop := fun a w => ∃ n S, I n S ∧ Rel M w0 D N S a w
  have least : ∀ a w, J a w → ∃ n, (∃ S, I n S ∧ Rel M w0 D N S a w) ∧ ∀ m, (∃ S, I m S ∧ Rel M w0 D N S a w) → n ≤ m := fun a w ⟨n, hn⟩ => by
    induction n using Nat.strongRecOn with
    | _ n ih =>
      by_cases hl : ∃ m, m < n ∧ ∃ S, I m S ∧ Rel M w0 D N S a w
      · obtain ⟨m, hmn, hm⟩ := hl
        exact ih m hmn hm
      · exact ⟨n, hn, fun m hm => Nat.le_of_not_lt fun hlt => hl ⟨m, hlt, hm⟩⟩
  have : ∀ a w, ∃ n, J a w → (∃ S, I n S ∧ Rel M w0 D N S a w) ∧ ∀ m, (∃ S, I m S ∧ Rel M w0 D N S a w) → n ≤ m := fun a w => by
    by_cases hJ : J a w
    · obtain ⟨n, hn⟩ := least a w hJ; exact ⟨n, fun _ => hn⟩
    · exact ⟨0, fun x => absurd x hJ⟩
  obtain ⟨μ, hμ⟩ := Classical.axiomOfChoice (r := fun (a : Act) (f : World → Nat) => ∀ w, J a w → (∃ S, I (f w) S ∧ Rel M w0 D N S a w) ∧ ∀ m, (∃ S, I m S ∧ Rel M w0 D N S a w) → f w ≤ m)
    (fun a => ⟨fun w => (Classical.choose (this a w)), fun w => Classical.choose_spec (this a w)⟩)
  refine wp_loop J μ ⟨n, S, h0, hr⟩ fun a w hJ => ?_
  obtain ⟨⟨S1, hI, hr1⟩, _⟩ := hμ a w hJ
  refine wp_mono (round _ S1 hI M w0 D a w hr1) fun e a' w' ⟨S', h1, h2⟩ => ?_
  cases e with
  | normal =>
    obtain ⟨m, S'', hm, hle, hI'⟩ := h1
    have hr' := hle M w0 D N a' w' h2
    have hJ' : J a' w' := ⟨m, S'', hI', hr'⟩
    exact ⟨hJ', Nat.lt_of_le_of_lt ((hμ a' w' hJ').2 m ⟨S'', hI', hr'⟩) hm⟩
  | exit i => exact ⟨S', h1, h2⟩
  | goto l => exact ⟨S', h1, h2⟩
  | ret => exact ⟨S', h1, h2⟩
  | panic c => exact ⟨S', h1, h2⟩
  | outgrown => exact ⟨S', h1, h2⟩

/-! ### the beginning and the end -/

def argT (i : Nat) (l : List SV) : List (Nat × SV) := match l with
  | [] => []
  | x :: r => (i, x) :: argT (i + 1) r

def resV (P : Program) (S : St) (r : ResultVar) : VRes := match r with
  | .tmp t => .ok True (look S.t t)
  | .cell x t => loadSV (tk P t) (look S.t x) S.h

def resL (P : Program) (S : St) (rs : List ResultVar) (K : List SV → Prop) : Prop := match rs with
  | [] => K []
  | r :: rest => match resV P S r with
    | .ok pre v => pre ∧ resL P S rest (fun vs => K (v :: vs))
    | _ => False

/-- What a function hands back. -/
def tupOf (vs : List SV) : SV := match vs with
  | [v] => v
  | vs => .tup vs

def retQ (P : Program) (rs : List ResultVar) (Q : SV → Heap → Prop) (e : Exit) (S : St) : Prop := match e with
  | .normal => ∃ S', S.le S' ∧ resL P S' rs (fun vs => Q (tupOf vs) S'.h)
  | .ret => ∃ S', S.le S' ∧ resL P S' rs (fun vs => Q (tupOf vs) S'.h)
  | _ => False

theorem look_argT (l : List SV) : ∀ (i j : Nat), i ≤ j → look (argT i l) j = l.getD (j - i) .any := by
  induction l with
  | nil => intro i j _; simp [argT, look]
  | cons x r ih =>
    intro i j hij
    simp only [argT, look]
    by_cases h : i = j
    · subst h
      rw [show Nat.beq i i = true by rw [Nat.beq_eq]]
      simp
    · rw [show Nat.beq i j = false by rw [← Bool.not_eq_true, Nat.beq_eq]; exact h]
      simp only [cond_false]
      rw [ih (i + 1) j (by omega), show j - i = (j - (i + 1)) + 1 by omega]
      simp

def resOne (tmps : Array Value) (r : ResultVar) : Sem Value := match r with
  | .tmp t => pure (tmps.getD t undef)
  | .cell x t => do loadVar t (← asAddr (tmps.getD x undef))

def unl (us : List Value) : Value := match us with
  | [u] => u
  | us => .tuple us.toArray

theorem results_eq (fn : Func) (tmps : Array Value) : results fn tmps = (do let vs ← fn.results.mapM (resOne tmps); pure (if h : vs.size = 1 then vs[0] else .tuple vs)) := rfl

theorem resL_sound {M : Nat → Prop} {w0 : World} {D : Nat → Prop} {a : Act} {w : World} (hr : Rel M w0 D N S a w) : ∀ (rs : List ResultVar) (K : List SV → Prop), resL P S rs K →
    ∃ (us : List Value) (vs : List SV), (rs.mapM (resOne a.tmps)).run P w = .ok us w ∧
      us.length = vs.length ∧ (∀ i, i < vs.length → Rep (envOf (hid M S.h) w) (us.getD i undef) (vs.getD i .any)) ∧ K vs
  | [], K, h => ⟨[], [], by simp, rfl, fun i hi => absurd hi (by simp), h⟩
  | r :: rest, K, h => by
    unfold resL at h
    split at h
    · rename_i pre v hv
      obtain ⟨us, vs, h1, h2, h3, h4⟩ := resL_sound hr rest _ h.2
      have one : ∃ u, (resOne a.tmps r).run P w = .ok u w ∧ Rep (envOf (hid M S.h) w) u v := by
        cases r with
        | tmp t => cases hv; exact ⟨_, rfl, hr.t t⟩
        | cell x t =>
          obtain ⟨u, hu, hrep⟩ := load_sound hr.own (hr.t x) hv h.1
          refine ⟨u, ?_, hrep⟩
          have hp : ∃ ad, a.tmps.getD x undef = .pointer (some ad) := by
            have hx := hr.t x
            simp only [resV] at hv
            unfold loadSV at hv
            split at hv
            all_goals first | (cases hv; done) | skip
            all_goals
              rename_i hxv
              rw [hxv] at hx
              generalize a.tmps.getD x undef = xv at hx
              cases hx
              exact ⟨_, rfl⟩
          obtain ⟨ad, had⟩ := hp
          rw [had] at hu
          show ((do loadVar t (← asAddr (a.tmps.getD x undef))) : Sem Value).run P w = .ok u w
          rw [had]
          simpa [Instr.loadAt, Instr.sureAddr, asAddr] using hu
      obtain ⟨u, hu, hrep⟩ := one
      refine ⟨u :: us, v :: vs, ?_, by simp [h2], fun i hi => ?_, h4⟩
      · rw [List.mapM_cons]
        simp only [Sem.run_bind, hu, Result.andThen_ok, h1, Sem.run_pure]
      · cases i with
        | zero => simpa using hrep
        | succ i => simpa using h3 i (by simpa using hi)
    · exact h.elim

theorem run_results {fn : Func} {tmps : Array Value} {w : World} {us : List Value} (h : (fn.results.toList.mapM (resOne tmps)).run P w = .ok us w) :
    (results fn tmps).run P w = .ok (unl us) w := by
  rw [results_eq, Array.mapM_eq_mapM_toList]
  simp only [Sem.run_bind, Sem.run_map, h, Result.andThen_ok, Sem.run_pure]
  congr 1
  match us with
  | [] => rfl
  | [u] => rfl
  | u :: v :: r => rfl

theorem tup_rep {E : Env} {us : List Value} {vs : List SV} (hl : us.length = vs.length) (hr : ∀ i, i < vs.length → Rep E (us.getD i undef) (vs.getD i .any)) :
    Rep E (unl us) (tupOf vs) := by
  match us, vs, hl with
  | [], [], _ => exact .tup _ _ rfl (fun i hi => absurd hi (by simp))
  | [u], [v], _ => exact hr 0 (by simp)
  | u :: u' :: us, v :: v' :: vs, hl =>
    refine .tup _ _ (by simpa using hl) (fun i hi => ?_)
    have := hr i hi
    rw [getD_toList]
    exact this

/-- **A function's contract, out of its body.** -/
theorem Call.enter {f : FuncId} {fn : Func} {c : Code} {args : List SV} {h : Heap} {Q : SV → Heap → Prop} (hf : P.funcs[f]? = some fn) (hb : fn.body = some c) (hn : (fn.name == "runtime.NumGoroutine") = false)
    (hl : args.length ≤ fn.ntmps) (hsw : SW P fn.ntmps c (retQ P fn.results.toList Q) ⟨argT 0 args, h⟩) : Call P f args h Q := by
  refine ⟨⟨fn, hf, by rw [hb]; rfl, hn⟩, fun M w vs own hr => ?_⟩
  refine calls_of_wp hf hb ?_
  have hrel : Rel M w h.has fn.ntmps ⟨argT 0 args, h⟩ { tmps := vs ++ Array.replicate (fn.ntmps - vs.size) undef, defers := [] } w := by
    refine ⟨rfl, by simp [hr.1]; omega, fun i => ?_, own, Frm.refl _ _, fun b hb _ => hb⟩
    rw [look_argT args 0 i (Nat.zero_le _), Nat.sub_zero]
    by_cases hi : i < args.length
    · have := hr.2 i hi
      have hv : i < vs.size := by rw [hr.1]; exact hi
      simpa [Array.getElem?_append_left hv] using this
    · rw [List.getD_eq_getElem?_getD, List.getElem?_eq_none (by omega)]
      exact .any _
  refine wp_mono (hsw M w h.has _ w hrel) fun e a' w' ⟨S', h1, h2⟩ => ?_
  have fin : (∃ S'', S'.le S'' ∧ resL P S'' fn.results.toList (fun vs => Q (tupOf vs) S''.h)) → a'.defers = [] ∧ ∃ v, (results fn a'.tmps).run P w' = .ok v w' ∧
      ∃ v' r h', Ending.returned v = .returned v' ∧ Q r h' ∧ Rep (envOf (hid M h') w') v' r ∧ Owns M h' w' ∧ Frm h.has w w' ∧ ∀ b, h'.has b → b < w.heap.size → h.has b := by
    rintro ⟨S'', hle, hres⟩
    have hr'' := hle _ _ _ _ _ _ h2
    obtain ⟨us, vs', hrun, hlen, hrep, hK⟩ := resL_sound hr'' _ _ hres
    exact ⟨hr''.defers, _, run_results hrun, _, _, _, rfl, hK, tup_rep hlen hrep, hr''.own, hr''.frm, hr''.new⟩
  cases e with
  | normal => exact fin h1
  | ret => exact fin h1
  | exit i => exact h1.elim
  | goto l => exact h1.elim
  | panic c => exact h1.elim
  | outgrown => exact h1.elim

/-- What a law's row asks of the walk. -/
theorem Call.law {f : FuncId} {args : List SV} {r : Value} (hc : PCall P f args (.sc r)) {w : World} {vs : Array Value} (hr : Reps (envOf (fun _ => False) w) vs args) :
    Calls P f vs w fun e w' => e = .returned r ∧ Below w.heap.size w w' := by
  have hh : hid (fun _ => False) [] = fun _ => False := by
    funext b
    simp only [hid]
    exact propext ⟨fun x => x.elim id (fun ⟨k, hk⟩ => by cases hk), fun x => x.elim⟩
  refine (hc.2 (fun _ => False) w vs ⟨by simp, fun b ⟨k, hk⟩ => (by cases hk), fun b x => x.elim, fun b k hk => (by cases hk)⟩ (by rw [hh]; exact hr)).mono fun e w' ⟨v, r', h', he, ⟨h1, h2⟩, hv, _, frm, _⟩ => ?_
  subst h1 h2
  cases hv
  exact ⟨he, frm.below (fun b _ ⟨k, hk⟩ => by cases hk)⟩

end
end Go.Ab
