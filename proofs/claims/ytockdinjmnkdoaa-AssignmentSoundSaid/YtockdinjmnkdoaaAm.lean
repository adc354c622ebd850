/- One operation, and a region in the order of its text. -/
import Derived.Test.YtockdinjmnkdoaaAl
namespace Go.Ab
open Go.RowKit

def dstOk (N : Nat) (d : Option Tmp) : Prop := match d with
  | some i => i < N
  | none => True

def storeK (T : Option (Bool × Nat)) (a : SV) (cs : Option (List SV)) (dst : Option Tmp) (K : St → Prop) (S : St) : Prop :=
  match T, a, cs with
  | some (_, n), .op b off, some cs => match S.h.find b with
    | some k => cs.length = n ∧ off + n ≤ k.len ∧ K ((⟨S.t, S.h.upd b (setN k off cs)⟩ : St).put dst .any)
    | none => False
  | _, _, _ => False

/-- For every block that is new beside these. -/
def allF (h : Heap) (F : Nat → Prop) : Prop := ∀ b, fresh h b → F b

def callK (P : Program) (f : SV) (args : List SV) (dst : Option Tmp) (K : St → Prop) (S : St) : Prop :=
  match f with
  | .fn (.func g) first captured => Call P g (first ++ args ++ captured) S.h (fun r h' => K ((⟨S.t, h'⟩ : St).put dst r))
  | _ => False

def appNilK (n bytes size : Nat) (cs : List SV) (dst : Option Tmp) (K : St → Prop) (S : St) : Prop :=
  n * bytes ≤ 140737488355328 ∧ n ≤ 140737488355328 ∧ (n = 0 → K (S.put dst (.sc (.slice none 0 0)))) ∧
    (0 < n → allF S.h fun b => K ((⟨S.t, (b, newB cs) :: S.h⟩ : St).put dst (.os b 0 n size)))

def appOsK (n bytes size b off len sz : Nat) (cs : List SV) (dst : Option Tmp) (K : St → Prop) (S : St) : Prop :=
  match S.h.find b with
  | some k => off = 0 ∧ sz = size ∧ len * sz = k.len ∧ (len + n) * bytes ≤ 140737488355328 ∧ len + n ≤ 140737488355328 ∧
      allF (S.h.del b) fun b' => K ((⟨S.t, S.h.ren b b' (appB k cs)⟩ : St).put dst (.os b' 0 (len + n) sz))
  | none => False

def appK (L : Option (TypeId × Nat × Nat)) (Z : Option (List Value)) (ni : Bool) (s x : SV) (dst : Option Tmp) (K : St → Prop) (S : St) : Prop :=
  match L, Z, srcCells x S.h with
  | some (_, size, bytes), some z, some (n, cs) => ni = true ∧ srcOk size x S.h ∧ cs.all single = true ∧ z.length = size ∧ 0 < size ∧
    (match s with
    | .sc (.slice none 0 0) => appNilK n bytes size cs dst K S
    | .os b off len sz => appOsK n bytes size b off len sz cs dst K S
    | _ => False)
  | _, _, _ => False

/-- A number of zeros is appended to nothing. -/
def appZK (L : Option (TypeId × Nat × Nat)) (Z : Option (List Value)) (s x : SV) (dst : Option Tmp) (K : St → Prop) (S : St) : Prop :=
  match L, Z, s, x with
  | some (_, size, bytes), some z, .sc (.slice none 0 0), .sc (.int .i64 n) => z.length = size ∧ 0 < size ∧ 0 < n ∧ n * bytes ≤ 140737488355328 ∧ n ≤ 140737488355328 ∧
      allF S.h fun b => K ((⟨S.t, (b, zeros z n.toNat) :: S.h⟩ : St).put dst (.os b 0 n.toNat size))
  | _, _, _, _ => False

def effK (P : Program) (op : Op) (dst : Option Tmp) (K : St → Prop) (S : St) : Prop :=
  match op with
  | .store t a v => storeK (tk P t) (S.ev a) (svCells (S.ev v)) dst K S
  | .call ⟨.value f, args, _⟩ => callK P (S.ev f) (args.toList.map S.ev) dst K S
  | .call ⟨.builtin .append, ⟨[s, x]⟩, ⟨[st, xt]⟩⟩ => bif notInt P xt then appK (slk P st) (elemZ P st) true (S.ev s) (S.ev x) dst K S
      else bif (ik P xt).isSome then appZK (slk P st) (elemZ P st) (S.ev s) (S.ev x) dst K S else False
  | _ => False

def resK (R : VRes) (dst : Option Tmp) (E : Prop) (K : St → Prop) (S : St) : Prop :=
  match R with
  | .ok pre v => pre ∧ K (S.put dst v)
  | .new pre k mk => pre ∧ allF S.h fun b => K ((⟨S.t, (b, k) :: S.h⟩ : St).put dst (mk b))
  | .bad => E

def stepK (P : Program) (N : Nat) (o : Oper) (K : St → Prop) (S : St) : Prop :=
  dstOk N o.dst ∧ resK (valOp P o.op S.ev S.h) o.dst (effK P o.op o.dst K S) K S

section
variable {P : Program} {M : Nat → Prop} {w0 : World} {D : Nat → Prop} {N : Nat} {S : St} {a : Act} {w : World}

theorem Rel.put' {S : St} (h : Rel M w0 D N S a w) {d : Option Tmp} (hd : dstOk N d) {v : Value} {s : SV} (hv : Rep (envOf (hid M S.h) w) v s) : Rel M w0 D N (S.put d s) (a.put d v) w :=
  h.put (fun i hi => by subst hi; exact hd) hv

theorem Rel.fresh_not (hr : Rel M w0 D N S a w) : ¬ S.h.has w.heap.size := fun hh => Nat.lt_irrefl _ (hr.own.has_lt hh)

/-- What stands behind a step of an operation, in the abstract layer. -/
def After (M : Nat → Prop) (w0 : World) (D : Nat → Prop) (N : Nat) (K : St → Prop) : Act → World → Prop := fun a' w' => ∃ S', K S' ∧ Rel M w0 D N S' a' w'

theorem rep_ops {a : Act} (hr : Rel M w0 D N S a w) (xs : Array Operand) : Reps (envOf (hid M S.h) w) (xs.map a.eval) (xs.toList.map S.ev) := ops_rep hr.ev xs

theorem run_callFunc {f : FuncId} {fn : Func} {args : Array Value} (hf : P.funcs[f]? = some fn) (hb : fn.body.isNone = false) (hn : (fn.name == "runtime.NumGoroutine") = false) :
    (callFunc f args).run P w = .ok (.enter f args) w := by
  have hb' : ¬ (fn.body.isNone = true) := by rw [hb]; simp
  have hn' : ¬ ((fn.name == "runtime.NumGoroutine") = true) := by rw [hn]; simp
  unfold callFunc
  simp only [Sem.run_bind, run_program, Result.andThen_ok, hf, if_neg hn', if_neg hb', Sem.run_pure]

theorem storeK_sound {o : Oper} {K : St → Prop} {Q : Exit → Act → World → Prop} {t : TypeId} {x y : Operand} (hop : o.op = .store t x y) (hd : dstOk N o.dst)
    (hr : Rel M w0 D N S a w) (h : storeK (tk P t) (S.ev x) (svCells (S.ev y)) o.dst K S) : o.wp P a w (After M w0 D N K) Q := by
  unfold storeK at h
  split at h
  · rename_i g n b off cs hT hx hcs
    split at h
    · rename_i k hk
      obtain ⟨hl, hle, hK⟩ := h
      have hxr := hr.ev x
      rw [hx] at hxr
      generalize hxv : a.eval x = xv at hxr
      cases hxr with
      | op _ _ =>
        obtain ⟨h1, h2, h3⟩ := svCells_spec (hr.ev y) hcs
        have hm := Heap.find_mem hk
        obtain ⟨w', hrun, own', frm⟩ := storeCells_run (P := P) (a.eval y).cells.toList cs off 0 w S.h k hr.own hm (by simpa using h1) (by omega)
          (fun j hj => by rw [← getD_toList]; exact h2 j hj) (fun j hj => by rw [← getD_toList]; exact h3 j hj)
        have hexec : (execOp a.eval o).run P w = .ok .skip w' := by
          have hsz : (a.eval y).cells.size = n := by omega
          simp only [execOp, hop, Sem.run_bind, Instr.storeAt, Instr.sureAddr, hxv, Sem.run_pure, Result.andThen_ok, storeVar, run_sizeOf hT, hsz, ne_eq, not_true_eq_false, if_false, hrun]
        unfold Oper.wp
        rw [hexec]
        refine ⟨_, hK, Rel.put' ?_ hd (.any _)⟩
        exact hr.move frm (fun c hc _ => hc ▸ ⟨k, hm⟩) (by simpa using own') (fun c _ hc => has_upd.1 hc)
    · exact h.elim
  · exact h.elim

theorem callK_sound {o : Oper} {K : St → Prop} {Q : Exit → Act → World → Prop} {f : Operand} {args : Array Operand} {ts : Array TypeId} (hop : o.op = .call ⟨.value f, args, ts⟩) (hd : dstOk N o.dst)
    (hr : Rel M w0 D N S a w) (h : callK P (S.ev f) (args.toList.map S.ev) o.dst K S) : o.wp P a w (After M w0 D N K) Q := by
  unfold callK at h
  split at h
  · rename_i g first captured hf
    obtain ⟨⟨fn, hfn, hb, hnm⟩, hcall⟩ := h
    have hfr := hr.ev f
    rw [hf] at hfr
    generalize hfv : a.eval f = fv at hfr
    cases hfr with
    | fn _ c1 c2 _ _ l1 l2 h1 h2 =>
      have hreps : Reps (envOf (hid M S.h) w) (c1 ++ args.map a.eval ++ c2) (first ++ args.toList.map S.ev ++ captured) := Reps.append (Reps.append ⟨l1, h1⟩ (rep_ops hr args)) ⟨l2, h2⟩
      have hexec : (execOp a.eval o).run P w = .ok (.enter g (c1 ++ args.map a.eval ++ c2)) w := by
        simp only [execOp, hop, Sem.run_bind, resolve, hfv, Deferred.ofValue, Sem.run_pure, Result.andThen_ok, invoke]
        exact run_callFunc hfn hb hnm
      unfold Oper.wp
      rw [hexec]
      refine (hcall M w _ hr.own hreps).mono fun e w' ⟨v, r, h', he, hK, hv, own', frm, hh⟩ => ?_
      subst he
      refine ⟨_, hK, Rel.put' ?_ hd hv⟩
      exact hr.move frm (fun c hc _ => hc) own' (fun c hc x => hh c x hc)
  · exact h.elim

theorem execAppend {o : Oper} {s x : Operand} {st xt : TypeId} (hop : o.op = .call ⟨.builtin .append, ⟨[s, x]⟩, ⟨[st, xt]⟩⟩) {r : Value} {w' : World}
    (h : (Builtin.append_ #[st, xt] o.type #[a.eval s, a.eval x]).run P w = .ok r w') : (execOp a.eval o).run P w = .ok (.value r) w' := by
  simp [execOp, hop, resolve, invoke, builtin, h]

theorem appK_sound {o : Oper} {K : St → Prop} {Q : Exit → Act → World → Prop} {s x : Operand} {st xt : TypeId} (hop : o.op = .call ⟨.builtin .append, ⟨[s, x]⟩, ⟨[st, xt]⟩⟩) (hd : dstOk N o.dst)
    (hr : Rel M w0 D N S a w) (hN : notInt P xt = true) (h : appK (slk P st) (elemZ P st) true (S.ev s) (S.ev x) o.dst K S) : o.wp P a w (After M w0 D N K) Q := by
  unfold appK at h
  split at h
  · rename_i e size bytes z n cs hL hZ hsrc
    obtain ⟨hni', hso, hone, hz, h0, hs⟩ := h
    have hni := hN
    have hZ' : zk P e = some z := by simpa [elemZ, hL] using hZ
    have A : AppHyp P M S.h w st xt (a.eval x) (S.ev x) e size bytes n z cs := ⟨hr.ev x, hL, hZ', hni, hsrc, hso, hz, h0⟩
    have hsr := hr.ev s
    split at hs
    · rename_i hsv
      rw [hsv] at hsr
      generalize hv : a.eval s = sv at hsr
      cases hsr
      obtain ⟨hb, hn, hK0, hK1⟩ := hs
      by_cases hn0 : n = 0
      · subst hn0
        obtain ⟨hlen, nc, hcr, hcs, hcn, hcrep⟩ := src_sound (P := P) hr.own A.hx A.hc A.ho
        obtain ⟨i, hu, hin, rfl, rfl⟩ := slk_spec hL
        have hrun : (Builtin.append_ #[st, xt] o.type #[.slice none 0 0, a.eval x]).run P w = .ok (.slice none 0 0) w := by
          obtain ⟨d, hd', hdi⟩ := notInt_run hni
          unfold Builtin.append_
          cases d <;> first | (simp at hdi; done) | skip
          all_goals
            simp only [Sem.run_bind, run_underlying hu, Result.andThen_ok, run_sizeOf_info hin, run_underlying hd', Sem.run_pure, hlen, Sem.run_ite, List.getElem?_toArray, List.getElem?_cons_zero, List.getElem?_cons_succ,
              Bool.false_eq_true, if_false, Nat.add_zero, Nat.le_refl, Bool.not_false, if_true, hcr]
        unfold Oper.wp
        rw [execAppend hop (by rw [hv]; exact hrun)]
        exact ⟨_, hK0 rfl, hr.put' hd (.sc _)⟩
      · obtain ⟨r, c, hrun, own', hrep⟩ := append_nil (ty := o.type) hr.own A hb hn (by omega)
        unfold Oper.wp
        rw [execAppend hop (by rw [hv]; exact hrun)]
        refine ⟨_, hK1 (by omega) w.heap.size (fresh_of hr.fresh_not), Rel.put' ?_ hd hrep⟩
        exact hr.move (D' := fun _ => False) ((frm_drw _ w).trans (frm_alc (w := drw w) _ _) (fun _ _ x => x)) (fun _ x _ => x.elim) own' (fun b hb hh => by
          rcases has_cons.1 hh with rfl | hh
          · omega
          · exact hh)
    · rename_i b off len sz hsv
      unfold appOsK at hs
      split at hs
      · rename_i k hk
        obtain ⟨rfl, rfl, hlk, hb, hn, hK⟩ := hs
        rw [hsv] at hsr
        obtain ⟨r, w', b', hrun, hfr, own', frm, hrep, hbb⟩ := append_os (ty := o.type) hr.own A hsr (Heap.find_mem hk) hlk hone hb hn
        unfold Oper.wp
        rw [execAppend hop hrun]
        refine ⟨_, hK b' hfr, Rel.put' ?_ hd hrep⟩
        refine hr.move frm (fun c hc _ => hc ▸ ⟨k, Heap.find_mem hk⟩) own' (fun c hc hh => ?_)
        obtain ⟨k', hk'⟩ := hh
        rcases mem_ren hk' with hk' | hk'
        · cases hk'
          rcases hbb with rfl | hbb
          · exact ⟨k, Heap.find_mem hk⟩
          · omega
        · exact ⟨k', mem_del hk'⟩
      · exact hs.elim
    · exact hs.elim
  · exact h.elim

theorem zeros_len_eq (z : List Value) (n : Nat) : (zeros z n).len = n * z.length := by
  unfold zeros
  split <;> simp [Blk.len, length_zfill]

theorem appZK_sound {o : Oper} {K : St → Prop} {Q : Exit → Act → World → Prop} {s x : Operand} {st xt : TypeId} (hop : o.op = .call ⟨.builtin .append, ⟨[s, x]⟩, ⟨[st, xt]⟩⟩) (hd : dstOk N o.dst)
    (hr : Rel M w0 D N S a w) (hI : (ik P xt).isSome = true) (h : appZK (slk P st) (elemZ P st) (S.ev s) (S.ev x) o.dst K S) : o.wp P a w (After M w0 D N K) Q := by
  unfold appZK at h
  split at h
  · rename_i e size bytes z n hL hZ hsv hxv
    obtain ⟨hz, h0, hn0, hb, hn, hK⟩ := h
    have hZ' : zk P e = some z := by simpa [elemZ, hL] using hZ
    have hsr := hr.ev s
    have hxr := hr.ev x
    rw [hsv] at hsr
    rw [hxv] at hxr
    generalize hv1 : a.eval s = sv at hsr
    generalize hv2 : a.eval x = xv at hxr
    cases hsr
    cases hxr
    obtain ⟨i, hu, hin, rfl, rfl⟩ := slk_spec hL
    obtain ⟨i', zv, hi', hzv, rfl⟩ := zk_spec hZ'
    rw [hin] at hi'; cases hi'
    have hsz : zv.cells.size = i.size := by simpa using hz
    obtain ⟨k, hk⟩ : ∃ k, P.underlying xt = some (.int k) := by
      unfold ik at hI
      split at hI
      · rename_i k hk; exact ⟨k, hk⟩
      · cases hI
    obtain ⟨m, rfl⟩ : ∃ m : Nat, n = (m : Int) := ⟨n.toNat, by omega⟩
    have hwr : IntKind.i64.wrap (m : Int) = m := i64_wrap (by omega) (by omega)
    have hti : ∀ w, (typeInfo e).run P w = .ok i w := fun w => run_typeInfo hin w
    have hzr := fun w => run_zeroValue (P := P) (w := w) hin hzv
    have hpos : ¬ m * i.size = 0 := by
      have := Nat.mul_pos (show 0 < m by omega) h0
      omega
    have hcap : ¬ Builtin.nextslicecap (0 + m) 0 * i.bytes > 2 ^ 48 := by
      have h1 := nextcap_le (need := 0 + m) (old := 0) (by omega)
      have h2 := Nat.mul_le_mul_right i.bytes h1
      rw [Nat.mul_assoc, Nat.zero_add] at h2
      rw [Nat.zero_add]
      have h3 : ((m * i.bytes : Nat) : Int) ≤ 140737488355328 := by rw [Int.natCast_mul]; exact hb
      omega
    have hbig : ¬ ((m : Int) * (i.bytes : Int) > 2 ^ 48) := by omega
    have hmax : ¬ (((0 + m : Nat) : Int) > IntKind.i64.max ∧ (True ∨ i.bytes = 0)) := by rw [IntKind.max_i64]; omega
    obtain ⟨newCap, hge, hrun⟩ : ∃ newCap, m ≤ newCap ∧ (Builtin.append_ #[st, xt] o.type #[.slice none 0 0, .int .i64 m]).run P w =
        .ok (.slice (some ⟨w.heap.size, 0, none⟩) m newCap) (alc (drw w) (#[] ++ Builtin.zeroCells zv.cells m ++ Builtin.zeroCells zv.cells (newCap - m)) e) := by
      refine ⟨0 + m + (w.tape w.drawn (.appendCap (0 + m) 0 e)) % (2 ^ 63 - (0 + m)), by omega, ?_⟩
      unfold Builtin.append_
      simp only [Sem.run_bind, run_underlying hu, Result.andThen_ok, run_sizeOf_info hin, run_underlying hk, Sem.run_pure, Sem.run_ite, List.getElem?_toArray, List.getElem?_cons_zero, List.getElem?_cons_succ,
        if_true, asInt, asIntOf, hwr, if_neg (show ¬ (m : Int) < 0 by omega), hti, if_neg hbig, Int.toNat_natCast, if_neg (show ¬ 0 + m ≤ 0 by omega), if_neg hmax, if_neg hcap, run_choose_cap, run_askRoom, Builtin.firstCells, Bool.not_true, Bool.false_eq_true, if_false, if_neg hpos, hzr, newRow, run_newObj]
      simp
      exact ⟨rfl, rfl⟩
    have own' := grow_owns (oc := #[]) (nc := Builtin.zeroCells zv.cells m) (rest := Builtin.zeroCells zv.cells (newCap - m)) (e := e) (os := []) (cs := (zeros zv.cells.toList m).cells) (k' := zeros zv.cells.toList m) hr.own rfl rfl
      (by rw [Blk.length_cells, zeros_len_eq]; simp [Builtin.zeroCells]) (fun i hi => absurd hi (by simp)) (fun i hi => by
        rw [Blk.length_cells] at hi
        rw [Blk.get_cells _ _ hi]
        exact zeros_get zv.cells m i hi)
    unfold Oper.wp
    rw [execAppend hop (by rw [hv1, hv2]; exact hrun)]
    refine ⟨_, hK w.heap.size (fresh_of hr.fresh_not), Rel.put' ?_ hd ?_⟩
    · exact hr.move (D' := fun _ => False) ((frm_drw _ w).trans (frm_alc (w := drw w) _ _) (fun _ _ x => x)) (fun _ x _ => x.elim) own' (fun b hb hh => by
        rcases has_cons.1 hh with rfl | hh
        · omega
        · exact hh)
    · refine .os _ 0 _ _ _ _ hge ⟨_, _, _, heap_alc_new, rfl⟩ ?_
      simp only [Builtin.zeroCells, Array.size_append, Array.size_map, Array.size_range, hsz]
      simp
      rw [← Nat.add_mul]
      exact Nat.le_of_eq (by congr 1; omega)
  · exact h.elim

theorem stepK_sound {o : Oper} {K : St → Prop} {Q : Exit → Act → World → Prop} (hr : Rel M w0 D N S a w) (h : stepK P N o K S) : o.wp P a w (After M w0 D N K) Q := by
  obtain ⟨hd, h⟩ := h
  unfold resK at h
  split at h
  · rename_i pre v hv
    obtain ⟨hp, hK⟩ := h
    obtain ⟨r, hrun, hrep⟩ := valOp_ok (P := P) (o := o) hr.own hr.ev hv hp
    unfold Oper.wp
    rw [hrun]
    exact ⟨_, hK, hr.put' hd hrep⟩
  · rename_i pre k mk hv
    obtain ⟨hp, hK⟩ := h
    obtain ⟨x, hx, ⟨c, e, u, hrun, hl, hcr, hrep⟩⟩ := valOp_new (P := P) (o := o) (M := M) (w := w) hr.ev hv hp
    unfold Oper.wp
    rw [hx, run_asNext hrun]
    refine ⟨_, hK w.heap.size (fresh_of hr.fresh_not), Rel.put' ?_ hd hrep⟩
    exact hr.move (frm_alc c e) (fun _ x _ => x.elim) (hr.own.alc hl hcr) (fun b hb hh => by
      rcases has_cons.1 hh with rfl | hh
      · omega
      · exact hh)
  · unfold effK at h
    split at h
    · rename_i t x y hop; exact storeK_sound hop hd hr h
    · rename_i f args ts hop; exact callK_sound hop hd hr h
    · rename_i s x st xt hop
      by_cases hN : notInt P xt = true
      · rw [hN] at h; exact appK_sound hop hd hr hN h
      · simp only [Bool.not_eq_true] at hN
        rw [hN] at h
        by_cases hI : (ik P xt).isSome = true
        · rw [hI] at h; exact appZK_sound hop hd hr hI h
        · simp only [Bool.not_eq_true] at hI
          rw [hI] at h; exact h.elim
    · exact h.elim

/-- A guard: the other operation's Bool decides; where it is not known both ways are gone, and it is known behind. -/
def guardB (x : SV) (t : Tmp) (want : Bool) (S : St) (A B : St → Prop) : Prop :=
  match x with
  | .sc (.bool b) => if b = true then (bif want then A (S.put (some t) (.sc (.bool true))) else B (S.put (some t) (.sc (.bool true)))) else (bif want then B (S.put (some t) (.sc (.bool false))) else A (S.put (some t) (.sc (.bool false))))
  | .sc (.tuple _) => B S
  | _ => False

def guardK (t : Option Tmp) (want : Bool) (S : St) (A B : St → Prop) : Prop :=
  match t with
  | none => False
  | some t => guardB (look S.t t) t want S A B

def gdst (ops : List Oper) (j : Nat) : Option Tmp := match ops[j]? with
  | some o => o.dst
  | none => none

def gstep (ops : List Oper) (N : Nat) (g : Option (Nat × Bool)) (dst : Option Tmp) (A : St → Prop) (K : St → Prop) (S : St) : Prop :=
  match g with
  | none => A S
  | some (j, want) => guardK (gdst ops j) want S A (fun S => dstOk N dst ∧ K (S.put dst (.sc undef)))

def vcOps (P : Program) (N : Nat) (ops : List Oper) (l : List Oper) (K : St → Prop) (S : St) : Prop := match l with
  | [] => K S
  | o :: r => gstep ops N o.guard o.dst (stepK P N o (vcOps P N ops r K)) (vcOps P N ops r K) S

theorem yielded_look {ops : List Oper} {j : Nat} {t : Tmp} {b : Bool} (hg : gdst ops j = some t) (hr : Rel M w0 D N S a w) (hl : look S.t t = .sc (.bool b)) : yielded ops.toArray a.tmps j = some b := by
  unfold gdst at hg
  split at hg
  · rename_i o ho
    have h1 := hr.t t
    rw [hl] at h1
    unfold yielded
    simp only [List.getElem?_toArray, ho, Option.bind_some, hg]
    rcases Nat.lt_or_ge t a.tmps.size with hlt | hge
    · simp only [Array.getD_eq_getD_getElem?, Array.getElem?_eq_getElem hlt, Option.getD_some] at h1 ⊢
      generalize a.tmps[t] = v at h1
      cases h1
      rfl
    · simp only [Array.getD_eq_getD_getElem?, Array.getElem?_eq_none hge, Option.getD_none, undef] at h1
      cases h1
  · cases hg

theorem yielded_tup {ops : List Oper} {j : Nat} {t : Tmp} {c : Array Value} (hg : gdst ops j = some t) (hr : Rel M w0 D N S a w) (hl : look S.t t = .sc (.tuple c)) : yielded ops.toArray a.tmps j = none := by
  unfold gdst at hg
  split at hg
  · rename_i o ho
    have h1 := hr.t t
    rw [hl] at h1
    unfold yielded
    simp only [List.getElem?_toArray, ho, Option.bind_some, hg]
    rcases Nat.lt_or_ge t a.tmps.size with hlt | hge
    · simp only [Array.getD_eq_getD_getElem?, Array.getElem?_eq_getElem hlt, Option.getD_some] at h1 ⊢
      generalize a.tmps[t] = v at h1
      cases h1
      rfl
    · simp [Array.getElem?_eq_none hge]
  · cases hg

/-- A guard is met: the state may say which way, and the operation comes up or not. -/
theorem gstep_sound {ops : List Oper} {o : Oper} {A K : St → Prop} (hr : Rel M w0 D N S a w) (h : gstep ops N o.guard o.dst A K S) :
    ∃ S', Rel M w0 D N S' a w ∧ ((Region.wanted o (yielded ops.toArray a.tmps) = true ∧ A S') ∨ (Region.wanted o (yielded ops.toArray a.tmps) = false ∧ dstOk N o.dst ∧ K (S'.put o.dst (.sc undef)))) := by
  unfold gstep at h
  unfold Region.wanted
  cases hg : o.guard with
  | none => rw [hg] at h; exact ⟨S, hr, .inl ⟨rfl, h⟩⟩
  | some jw =>
    obtain ⟨j, want⟩ := jw
    rw [hg] at h
    simp only [guardK] at h
    split at h
    · exact h.elim
    · rename_i t ht
      have put : ∀ b, look S.t t = .sc (.bool b) → Rel M w0 D N (S.put (some t) (.sc (.bool b))) a w := fun b hb => by
        have h1 := hr.t t
        rw [hb] at h1
        refine ⟨hr.defers, hr.n, fun i => ?_, hr.own, hr.frm, hr.new⟩
        show Rep _ _ (look ((t, SV.sc (.bool b)) :: S.t) i)
        rw [look_cons]
        by_cases hi : t = i
        · subst hi
          rw [show Nat.beq t t = true by rw [Nat.beq_eq]]
          exact h1
        · rw [show Nat.beq t i = false by rw [← Bool.not_eq_true, Nat.beq_eq]; exact hi]
          exact hr.t i
      unfold guardB at h
      split at h
      · rename_i b hl
        refine ⟨_, put b hl, ?_⟩
        simp only [yielded_look ht hr hl]
        cases b
        · simp only [Bool.false_eq_true, if_false] at h
          cases want
          · exact .inl ⟨rfl, h⟩
          · exact .inr ⟨rfl, h⟩
        · simp only [if_true] at h
          cases want
          · exact .inr ⟨rfl, h⟩
          · exact .inl ⟨rfl, h⟩
      · rename_i c hl
        refine ⟨S, hr, .inr ⟨?_, h⟩⟩
        simp only [yielded_tup ht hr hl]
        rfl
      · exact h.elim

theorem vcOps_sound {ops : List Oper} {Q : Exit → Act → World → Prop} {K : St → Prop} (hK : ∀ S a w, K S → Rel M w0 D N S a w → Q .normal a w) :
    ∀ (l : List Oper) (S : St) (a : Act) (w : World), vcOps P N ops l K S → Rel M w0 D N S a w → wpList P ops.toArray Q l a w
  | [], S, a, w, h, hr => wpList_nil (hK S a w h hr)
  | o :: r, S, a, w, h, hr => by
    obtain ⟨S', hr', h'⟩ := gstep_sound (ops := ops) hr h
    refine wpList_step fun K' hK' => ?_
    rcases h' with ⟨hw, hA⟩ | ⟨hw, hd, hB⟩
    · rw [if_pos hw]
      exact Oper.wp_mono (fun a' w' ⟨S'', h1, h2⟩ => hK' a' w' (vcOps_sound hK r S'' a' w' h1 h2)) (stepK_sound hr' hA)
    · rw [if_neg (by rw [hw]; simp)]
      exact hK' _ _ (vcOps_sound hK r _ _ _ hB (hr'.put' hd (.sc _)))

end
end Go.Ab
