/- Calls that leave the owned blocks alone; regions that draw their order. -/
import Derived.Test.YtockdinjmnkdoaaAm
namespace Go.Ab
open Go.RowKit

/-- A call whose result is known and that touches nothing that is owned. -/
def PCall (P : Program) (f : FuncId) (args : List SV) (r : SV) : Prop := Call P f args [] (fun r' h' => r' = r ∧ h' = [])

section
variable {P : Program} {M : Nat → Prop} {w0 : World} {D : Nat → Prop} {N : Nat} {h : Heap} {w : World}

theorem has_append {h1 h2 : Heap} {b : Nat} : Heap.has (h1 ++ h2) b ↔ h1.has b ∨ h2.has b := by
  unfold Heap.has
  simp only [List.mem_append]
  constructor
  · rintro ⟨k, hk | hk⟩
    · exact .inl ⟨k, hk⟩
    · exact .inr ⟨k, hk⟩
  · rintro (⟨k, hk⟩ | ⟨k, hk⟩)
    · exact ⟨k, .inl hk⟩
    · exact ⟨k, .inr hk⟩

theorem hid_append (M : Nat → Prop) (h1 h2 : Heap) : hid (hid M h2) h1 = hid M (h1 ++ h2) := by
  funext b
  simp only [hid, has_append]
  exact propext ⟨fun x => x.elim (fun x => x.elim .inl (fun y => .inr (.inr y))) (fun y => .inr (.inl y)), fun x => x.elim (fun y => .inl (.inl y)) (fun x => x.elim .inr (fun y => .inl (.inr y)))⟩

/-- **A call owns what it was handed; what else is owned stays as it is.** -/
theorem Call.frame {f : FuncId} {args : List SV} {h1 h2 : Heap} {Q : SV → Heap → Prop} (hc : Call P f args h1 Q) :
    Call P f args (h1 ++ h2) (fun r h' => ∃ h1', h' = h1' ++ h2 ∧ Q r h1') := by
  refine ⟨hc.1, fun M w vs own hr => ?_⟩
  have hnd := own.nodup
  rw [List.map_append, List.nodup_append] at hnd
  obtain ⟨n1, n2, n12⟩ := hnd
  have own1 : Owns (hid M h2) h1 w := by
    refine ⟨n1, fun b hb hm => ?_, fun b hb => ?_, fun b k hk => ?_⟩
    · rcases hm with hm | hm
      · exact own.notM b (has_append.2 (.inl hb)) hm
      · exact n12 b (has_map.1 hb) b (has_map.1 hm) rfl
    · rcases hb with hb | hb
      · exact own.lt b hb
      · exact own.has_lt (has_append.2 (.inr hb))
    · obtain ⟨c, e, h0, hl, hrp⟩ := own.ok b k (List.mem_append_left _ hk)
      rw [hid_append]
      exact ⟨c, e, h0, hl, hrp⟩
  refine (hc.2 (hid M h2) w vs own1 (by rw [hid_append]; exact hr)).mono fun e w' ⟨v, r, h1', he, hq, hv, own1', frm, hh⟩ => ?_
  refine ⟨v, r, h1' ++ h2, he, ⟨h1', rfl, hq⟩, by rw [← hid_append]; exact hv, ?_, ?_, fun b hb hlt => ?_⟩
  · refine ⟨?_, fun b hb hm => ?_, fun b hb => Nat.lt_of_lt_of_le (own.lt b hb) frm.size, fun b k hk => ?_⟩
    · rw [List.map_append, List.nodup_append]
      refine ⟨own1'.nodup, n2, fun b hb c hc' hbc => ?_⟩
      subst hbc
      have hlt : b < w.heap.size := own.has_lt (has_append.2 (.inr (has_map.2 hc')))
      exact n12 b (has_map.1 (hh b (has_map.2 hb) hlt)) b hc' rfl
    · rcases has_append.1 hb with hb | hb
      · exact own1'.notM b hb (.inl hm)
      · exact own.notM b (has_append.2 (.inr hb)) hm
    · rcases List.mem_append.1 hk with hk | hk
      · obtain ⟨c, e, h0, hl, hrp⟩ := own1'.ok b k hk
        exact ⟨c, e, h0, hl, fun i hi => by rw [← hid_append]; exact hrp i hi⟩
      · obtain ⟨c, e, h0, hl, hrp⟩ := own.ok b k (List.mem_append_right _ hk)
        have hlt := lt_of_heap h0
        have hn1 : ¬ h1.has b := fun x => n12 b (has_map.1 x) b (has_map.1 ⟨k, hk⟩) rfl
        refine ⟨c, e, by rw [frm.keep b hlt hn1]; exact h0, hl, fun i hi => (hrp i hi).mono (env_le frm (fun c hc _ => .inr (has_append.2 (.inl hc))) (fun c hc x => ?_))⟩
        rcases x with x | x
        · exact .inl x
        · rcases has_append.1 x with x | x
          · exact .inr (has_append.2 (.inl (hh c x hc)))
          · exact .inr (has_append.2 (.inr x))
  · exact ⟨frm.size, fun b hb hn => frm.keep b hb (fun x => hn (has_append.2 (.inl x))), frm.sizes, frm.os, frm.tape, frm.output⟩
  · rcases has_append.1 hb with hb | hb
    · exact has_append.2 (.inl (hh b hb hlt))
    · exact has_append.2 (.inr hb)

theorem Call.of_pure {f : FuncId} {args : List SV} {r : SV} {h : Heap} {Q : SV → Heap → Prop} (hc : PCall P f args r) (hq : Q r h) : Call P f args h Q :=
  (Call.frame (h2 := h) hc).mono fun r' h' ⟨h1', e1, e2, e3⟩ => by subst e1 e2 e3; exact hq

theorem Call.perm {f : FuncId} {args : List SV} {h h' : Heap} {Q : SV → Heap → Prop} (hc : Call P f args h' Q) (hp : ∀ x, x ∈ h' ↔ x ∈ h) (hn : (h.map (·.1)).Nodup → (h'.map (·.1)).Nodup) : Call P f args h Q := by
  refine ⟨hc.1, fun M w vs own hr => ?_⟩
  have hhas : h'.has = h.has := by funext b; unfold Heap.has; exact propext ⟨fun ⟨k, hk⟩ => ⟨k, (hp _).1 hk⟩, fun ⟨k, hk⟩ => ⟨k, (hp _).2 hk⟩⟩
  have hhid : hid M h' = hid M h := by funext b; simp only [hid, hhas]
  have own' : Owns M h' w := ⟨hn own.nodup, fun b hb => own.notM b (hhas ▸ hb), own.lt, fun b k hk => by rw [hhid]; exact own.ok b k ((hp _).1 hk)⟩
  refine (hc.2 M w vs own' (by rw [hhid]; exact hr)).mono fun e w' ⟨v, r, h1, he, hq, hv, o1, frm, hh⟩ => ?_
  exact ⟨v, r, h1, he, hq, hv, o1, hhas ▸ frm, fun b hb hlt => hhas ▸ hh b hb hlt⟩

/-! ### regions that draw their order -/

/-- Operations that only compute, read, or call what touches nothing. -/
def stableOp : Op → Bool
  | .move _ => true
  | .assign _ => true
  | .pick _ _ _ => true
  | .binOp _ _ _ _ _ => true
  | .unOp _ _ _ => true
  | .load _ _ => true
  | .indexAddr _ _ _ => true
  | .index _ _ _ => true
  | .fieldAddr _ _ _ => true
  | .field _ _ _ => true
  | .extract _ _ => true
  | .nilCheck _ => true
  | .slice _ _ _ _ _ => true
  | .convert _ _ _ => true
  | .build _ _ => true
  | .makeFunc _ _ _ => true
  | .call ⟨.value _, _, _⟩ => true
  | .call ⟨.builtin .len, _, _⟩ => true
  | .call ⟨.builtin .min, _, _⟩ => true
  | .call ⟨.builtin .max, _, _⟩ => true
  | _ => false

/-- What an operation yields where it is stable. -/
def Yld (P : Program) (o : Oper) (ρ : Operand → SV) (h : Heap) (v : SV) : Prop :=
  (∃ pre, valOp P o.op ρ h = .ok pre v ∧ pre) ∨
  ∃ f args ts g first captured, o.op = .call ⟨.value f, args, ts⟩ ∧ ρ f = .fn (.func g) first captured ∧ PCall P g (first ++ args.toList.map ρ ++ captured) v

def pcallK (P : Program) (f : SV) (args : List SV) (dst : Option Tmp) (K : St → Prop) (S : St) : Prop :=
  match f with
  | .fn (.func g) first captured => ∃ r, PCall P g (first ++ args ++ captured) r ∧ K (S.put dst r)
  | _ => False

def effD (P : Program) (op : Op) (dst : Option Tmp) (K : St → Prop) (S : St) : Prop :=
  match op with
  | .call ⟨.value f, args, _⟩ => pcallK P (S.ev f) (args.toList.map S.ev) dst K S
  | _ => False

def resD (R : VRes) (dst : Option Tmp) (E : Prop) (K : St → Prop) (S : St) : Prop :=
  match R with
  | .ok pre v => pre ∧ K (S.put dst v)
  | .new _ _ _ => False
  | .bad => E

def stepD (P : Program) (N : Nat) (o : Oper) (K : St → Prop) (S : St) : Prop :=
  bif stableOp o.op then dstOk N o.dst ∧ resD (valOp P o.op S.ev S.h) o.dst (effD P o.op o.dst K S) K S else stepK P N o K S

def vcD (P : Program) (N : Nat) (ops : List Oper) (l : List Oper) (K : St → Prop) (S : St) : Prop := match l with
  | [] => K S
  | o :: r => gstep ops N o.guard o.dst (stepD P N o (vcD P N ops r K)) (vcD P N ops r K) S

/-! the any-order predicate, over what the temporaries hold -/

def evF (T : Nat → SV) : Operand → SV
  | .tmp i => T i
  | .const v => .sc v
  | .global _ => .any
  | .func f => .fn (.func f) [] []

def putF (T : Nat → SV) (d : Option Tmp) (v : SV) : Nat → SV := match d with
  | some d => fun i => bif Nat.beq d i then v else T i
  | none => T

theorem ev_look (S : St) : S.ev = evF (look S.t) := by funext x; cases x <;> rfl
theorem look_put (S : St) (d : Option Tmp) (v : SV) : look (S.put d v).t = putF (look S.t) d v := by cases d <;> rfl
theorem h_put (S : St) (d : Option Tmp) (v : SV) : (S.put d v).h = S.h := by cases d <;> rfl

/-- Is the operation wanted? -/
def Wtd (ops : List Oper) (g : Option (Nat × Bool)) (T : Nat → SV) (yes : Bool) : Prop := match g with
  | none => yes = true
  | some (j, want) => ∃ t, gdst ops j = some t ∧ ((∃ b, T t = .sc (.bool b) ∧ yes = (b == want)) ∨ (∃ c, T t = .sc (.tuple c) ∧ yes = false))

def YA (P : Program) (N : Nat) (ops : List Oper) (o : Oper) (T : Nat → SV) (h : Heap) (v : SV) : Prop :=
  dstOk N o.dst ∧ ((Wtd ops o.guard T true ∧ Yld P o (evF T) h v) ∨ (Wtd ops o.guard T false ∧ v = .sc undef))

def opA (P : Program) (N : Nat) (ops : List Oper) (i : Nat) (K : (Nat → SV) → Heap → Prop) (T : Nat → SV) (h : Heap) : Prop :=
  match ops[i]? with
  | none => K T h
  | some o => bif stableOp o.op then ∃ v, YA P N ops o T h v ∧ K (putF T o.dst v) h
    else ∃ S, look S.t = T ∧ S.h = h ∧ gstep ops N o.guard o.dst (stepK P N o (fun S => K (look S.t) S.h)) (fun S => K (look S.t) S.h) S

def anyA (P : Program) (N : Nat) (ops : List Oper) (K : (Nat → SV) → Heap → Prop) : Nat → Array Bool → (Nat → SV) → Heap → Prop
  | 0, listed, T, h => Region.ready .any ops.toArray listed = [] ∧ K T h
  | f + 1, listed, T, h => (Region.ready .any ops.toArray listed = [] → K T h) ∧
    ∀ i ∈ Region.ready .any ops.toArray listed, opA P N ops i (anyA P N ops K f (listed.setIfInBounds i true)) T h

theorem Rel.look_eq {S S' : St} {a : Act} (hr : Rel M w0 D N S a w) (h1 : look S'.t = look S.t) (h2 : S'.h = S.h) : Rel M w0 D N S' a w :=
  ⟨hr.defers, hr.n, fun i => by rw [h1, h2]; exact hr.t i, by rw [h2]; exact hr.own, hr.frm, by rw [h2]; exact hr.new⟩

theorem yielded_F {ops : List Oper} {S : St} {a : Act} {o : Oper} {yes : Bool} (hr : Rel M w0 D N S a w) (hw : Wtd ops o.guard (look S.t) yes) : Region.wanted o (yielded ops.toArray a.tmps) = yes := by
  unfold Wtd at hw
  unfold Region.wanted
  split at hw
  · rename_i hg; rw [hg]; exact hw.symm
  · rename_i j want hg
    obtain ⟨t, ht, hw⟩ := hw
    rw [hg]
    rcases hw with ⟨b, hT, rfl⟩ | ⟨c, hT, rfl⟩
    · simp only [yielded_look ht hr hT]
      cases b <;> cases want <;> rfl
    · simp only [yielded_tup ht hr hT]
      rfl

theorem yld_sound {o : Oper} {S : St} {a : Act} {v : SV} {K : Act → World → Prop} {Q : Exit → Act → World → Prop} (hr : Rel M w0 D N S a w) (hd : dstOk N o.dst) (hy : Yld P o (evF (look S.t)) S.h v)
    (hK : ∀ a' w', Rel M w0 D N (S.put o.dst v) a' w' → K a' w') : o.wp P a w K Q := by
  rw [← ev_look] at hy
  rcases hy with ⟨pre, hv, hp⟩ | ⟨f, args, ts, g, first, captured, hop, hf, hc⟩
  · obtain ⟨r, hrun, hrep⟩ := valOp_ok (P := P) (o := o) hr.own hr.ev hv hp
    unfold Oper.wp
    rw [hrun]
    exact hK _ _ (hr.put' hd hrep)
  · have := callK_sound (P := P) (o := o) (K := fun S' => S' = S.put o.dst v) (Q := Q) hop hd hr (by
      unfold callK
      rw [hf]
      exact Call.of_pure hc rfl)
    exact Oper.wp_mono (fun a' w' ⟨S', e1, e2⟩ => hK a' w' (e1 ▸ e2)) this

theorem anyA_sound {ops : List Oper} {Q : Exit → Act → World → Prop} {K : (Nat → SV) → Heap → Prop} (hK : ∀ S a w, K (look S.t) S.h → Rel M w0 D N S a w → Q .normal a w) :
    ∀ (f : Nat) (listed : Array Bool) (S : St) (a : Act) (w : World), Rel M w0 D N S a w → anyA P N ops K f listed (look S.t) S.h → wpAny P .any ops.toArray Q f listed a w
  | 0, listed, S, a, w, hr, h => ⟨h.1, hK S a w h.2 hr⟩
  | f + 1, listed, S, a, w, hr, h => by
    refine ⟨fun h0 => hK S a w (h.1 h0) hr, fun i hi => ?_⟩
    have hop := h.2 i hi
    unfold opA at hop
    unfold wpOp
    simp only [List.getElem?_toArray]
    split
    · rename_i ho
      simp only [ho] at hop
      exact anyA_sound hK f _ S a w hr hop
    · rename_i o ho
      simp only [ho] at hop
      by_cases hs : stableOp o.op = true
      · rw [hs] at hop
        simp only [cond_true] at hop
        obtain ⟨v, ⟨hd, hy⟩, hn⟩ := hop
        have next : ∀ a' w', Rel M w0 D N (S.put o.dst v) a' w' → wpAny P .any ops.toArray Q f (listed.setIfInBounds i true) a' w' := fun a' w' hr' =>
          anyA_sound hK f _ (S.put o.dst v) a' w' hr' (by rw [look_put, h_put]; exact hn)
        rcases hy with ⟨hw, hy⟩ | ⟨hw, rfl⟩
        · rw [if_pos (yielded_F hr hw)]
          exact .inl (yld_sound hr hd hy next)
        · rw [if_neg (by rw [yielded_F hr hw]; simp)]
          exact next _ _ (hr.put' hd (.sc _))
      · simp only [Bool.not_eq_true] at hs
        rw [hs] at hop
        simp only [cond_false] at hop
        obtain ⟨S1, e1, e2, hg⟩ := hop
        have hr1 := hr.look_eq e1 e2
        obtain ⟨S', hr', h'⟩ := gstep_sound (ops := ops) hr1 hg
        rcases h' with ⟨hw, hA⟩ | ⟨hw, hd, hB⟩
        · rw [if_pos hw]
          exact .inl (Oper.wp_mono (fun a' w' ⟨S'', h1, h2⟩ => anyA_sound hK f _ S'' a' w' h2 h1) (stepK_sound hr' hA))
        · rw [if_neg (by rw [hw]; simp)]
          exact anyA_sound hK f _ _ _ _ (hr'.put' hd (.sc _)) hB

end
end Go.Ab
