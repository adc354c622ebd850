/- A region that draws its order: the order of the text serves every order. -/
import Derived.Test.YtockdinjmnkdoaaAn
namespace Go.Ab
open Go.RowKit

section
variable {P : Program} {M : Nat → Prop} {w0 : World} {D : Nat → Prop} {N : Nat} {h : Heap} {w : World}

theorem map_op_congr {ρ ρ' : Operand → SV} (xs : Array Operand) (h : ∀ x ∈ xs, ρ x = ρ' x) : xs.toList.map ρ = xs.toList.map ρ' :=
  List.map_congr_left fun x hx => h x (by simpa using hx)

theorem omap_congr {ρ ρ' : Operand → SV} (o : Option Operand) (h : ∀ x ∈ o.toArray, ρ x = ρ' x) : o.map ρ = o.map ρ' := by
  cases o with
  | none => rfl
  | some x => simp [h x (by simp)]

theorem valOp_congr {op : Op} (hs : stableOp op = true) {ρ ρ' : Operand → SV} (h : Heap) (he : ∀ x ∈ op.operands, ρ x = ρ' x) : valOp P op ρ h = valOp P op ρ' h := by
  unfold stableOp at hs
  split at hs
  all_goals try (cases hs; done)
  all_goals simp only [Op.operands] at he
  case h_13 t x lo hi mx =>
    have e1 := he x (by simp)
    have e2 := omap_congr lo (fun y hy => he y (by simp at hy ⊢; simp [hy]))
    have e3 := omap_congr hi (fun y hy => he y (by simp at hy ⊢; simp [hy]))
    have e4 := omap_congr mx (fun y hy => he y (by simp at hy ⊢; simp [hy]))
    simp only [valOp, e1, e2, e3, e4]
  case h_15 t ps =>
    simp only [valOp]
    have : (ps.toList.map fun (i, x) => (i, ρ x)) = (ps.toList.map fun (i, x) => (i, ρ' x)) := List.map_congr_left fun p hp => by
      obtain ⟨i, x⟩ := p
      have hm : x ∈ ((ps.toList.map (·.2)).toArray : Array Operand) := by
        rw [List.mem_toArray]
        exact List.mem_map.2 ⟨(i, x), hp, rfl⟩
      simp only [he x hm]
    rw [this]
  case h_16 fn a c =>
    simp only [valOp]
    rw [map_op_congr a (fun x hx => he x (by simp [hx])), map_op_congr c (fun x hx => he x (by simp [hx]))]
  case h_17 f args ts => rfl
  case h_18 args ts =>
    unfold valOp
    split <;> first | rfl | skip
    all_goals simp_all [Call.operands, Go.Call.operands]
  case h_19 args ts =>
    unfold valOp
    split <;> first | rfl | skip
    all_goals simp_all [Go.Call.operands]
  case h_20 args ts =>
    unfold valOp
    split <;> first | rfl | skip
    all_goals simp_all [Go.Call.operands]
  all_goals simp_all [valOp]

theorem Yld_congr {o : Oper} (hs : stableOp o.op = true) {ρ ρ' : Operand → SV} (he : ∀ x ∈ o.op.operands, ρ x = ρ' x) {v : SV} (hy : Yld P o ρ h v) : Yld P o ρ' h v := by
  rcases hy with ⟨pre, hv, hp⟩ | ⟨f, args, ts, g, first, captured, hop, hf, hc⟩
  · exact .inl ⟨pre, by rw [← valOp_congr hs h he]; exact hv, hp⟩
  · rw [hop] at he
    simp only [Op.operands, Go.Call.operands] at he
    have e1 : ρ' f = ρ f := (he f (by simp)).symm
    have e2 : args.toList.map ρ' = args.toList.map ρ := (map_op_congr args (fun x hx => he x (by simp [hx]))).symm
    exact .inr ⟨f, args, ts, g, first, captured, hop, by rw [e1]; exact hf, by rw [e2]; exact hc⟩

/-- What an operation looks at is told apart from what is put. -/
def Away (ops : List Oper) (o : Oper) (d : Option Tmp) : Prop := ∀ t, d = some t → t ∉ o.looksAt ops.toArray

theorem putF_other {T : Nat → SV} {d : Option Tmp} {v : SV} {i : Nat} (hne : d ≠ some i) : putF T d v i = T i := by
  cases d with
  | none => rfl
  | some d =>
    have : Nat.beq d i = false := by rw [← Bool.not_eq_true, Nat.beq_eq]; exact fun e => hne (by rw [e])
    simp [putF, this]

theorem evF_putF {ops : List Oper} {o : Oper} {T : Nat → SV} {d : Option Tmp} {v : SV} (ha : Away ops o d) : ∀ x ∈ o.op.operands, evF (putF T d v) x = evF T x := by
  intro x hx
  cases x with
  | tmp i =>
    refine putF_other (fun e => ha i e ?_)
    exact List.mem_append_left _ (List.mem_filterMap.2 ⟨.tmp i, by simpa using hx, rfl⟩)
  | _ => rfl

theorem Wtd_putF {ops : List Oper} {o : Oper} {T : Nat → SV} {d : Option Tmp} {v : SV} (ha : Away ops o d) {yes : Bool} : Wtd ops o.guard (putF T d v) yes ↔ Wtd ops o.guard T yes := by
  unfold Wtd
  split
  · exact Iff.rfl
  · rename_i j want hg
    have key : ∀ t, gdst ops j = some t → putF T d v t = T t := fun t ht => by
      refine putF_other (fun e => ha t e ?_)
      refine List.mem_append_right _ ?_
      rw [hg]
      unfold gdst at ht
      split at ht
      · rename_i o' ho'
        simp only [List.getElem?_toArray, ho', Option.bind_some, ht]
        simp
      · cases ht
    constructor
    · rintro ⟨t, ht, hT⟩; exact ⟨t, ht, by rw [key t ht] at hT; exact hT⟩
    · rintro ⟨t, ht, hT⟩; exact ⟨t, ht, by rw [key t ht]; exact hT⟩

theorem YA_putF {ops : List Oper} {o : Oper} (hs : stableOp o.op = true) {T : Nat → SV} {d : Option Tmp} {v u : SV} (ha : Away ops o d) : YA P N ops o (putF T d v) h u ↔ YA P N ops o T h u := by
  unfold YA
  have hy : Yld P o (evF (putF T d v)) h u ↔ Yld P o (evF T) h u :=
    ⟨Yld_congr hs (evF_putF ha), Yld_congr hs (fun x hx => (evF_putF ha x hx).symm)⟩
  rw [Wtd_putF ha, Wtd_putF ha, hy]

theorem putF_comm (T : Nat → SV) {x y : Option Tmp} (v u : SV) (hne : ∀ d, x = some d → y ≠ some d) : putF (putF T x v) y u = putF (putF T y u) x v := by
  cases x with
  | none => rfl
  | some d =>
    cases y with
    | none => rfl
    | some e =>
      have hde : d ≠ e := fun he => hne d rfl (he ▸ rfl)
      funext i
      simp only [putF]
      by_cases h1 : Nat.beq e i = true
      · rw [h1]
        rw [Nat.beq_eq] at h1
        have : Nat.beq d i = false := by rw [← Bool.not_eq_true, Nat.beq_eq, ← h1]; exact hde
        rw [this]; rfl
      · simp only [Bool.not_eq_true] at h1; rw [h1]; rfl

theorem opA_mono {ops : List Oper} {i : Nat} {o : Oper} (ho : ops[i]? = some o) (hs : stableOp o.op = true) {K K' : (Nat → SV) → Heap → Prop} {T : Nat → SV} (hk : ∀ T, K T h → K' T h) (hh : opA P N ops i K T h) : opA P N ops i K' T h := by
  unfold opA at hh ⊢
  simp only [ho, hs, cond_true] at hh ⊢
  obtain ⟨v, hy, hn⟩ := hh
  exact ⟨v, hy, hk _ hn⟩

theorem opA_put {ops : List Oper} {j : Nat} {oi oj : Oper} {v : SV} (hj : ops[j]? = some oj) (hap : oi.apart ops.toArray oj = true) (hsi : stableOp oi.op = true) (hsj : stableOp oj.op = true)
    {K : (Nat → SV) → Heap → Prop} {T : Nat → SV} (hy : YA P N ops oi T h v) (hh : opA P N ops j K (putF T oi.dst v) h) :
    opA P N ops j (fun T' h' => h' = h ∧ YA P N ops oi T' h v ∧ K (putF T' oi.dst v) h) T h := by
  obtain ⟨h1, h2, h3⟩ := Oper.apart_spec hap
  unfold opA at hh ⊢
  simp only [hj, hsj, cond_true] at hh ⊢
  obtain ⟨u, hu, hn⟩ := hh
  exact ⟨u, (YA_putF hsj (fun t ht => h1 t ht)).1 hu, trivial, (YA_putF hsi (fun t ht => h3 t ht)).2 hy, by rw [← putF_comm T v u h2]; exact hn⟩

theorem anyA_first {ops : List Oper} {K : (Nat → SV) → Heap → Prop} {i : Nat} {oi : Oper} {v : SV} (hi : ops[i]? = some oi) (hsi : stableOp oi.op = true) :
    ∀ (fuel : Nat) (listed : Array Bool) (T : Nat → SV),
      (∀ j oj, ops[j]? = some oj → j ≠ i → listed.getD j true = false → (∀ e ∈ oj.after, Region.binds .any e = true → e.on ≠ i) → oi.apart ops.toArray oj = true ∧ stableOp oj.op = true) →
      i ∈ Region.ready .any ops.toArray listed → YA P N ops oi T h v →
      anyA P N ops K fuel (listed.setIfInBounds i true) (putF T oi.dst v) h → anyA P N ops K (fuel + 1) listed T h := by
  have use : ∀ {K' : (Nat → SV) → Heap → Prop} {T : Nat → SV}, YA P N ops oi T h v → K' (putF T oi.dst v) h → opA P N ops i K' T h := fun hy hk => by
    unfold opA; simp only [hi, hsi, cond_true]; exact ⟨v, hy, hk⟩
  intro fuel
  induction fuel with
  | zero =>
    intro listed T _ hr hy H
    refine ⟨fun h => (by rw [h] at hr; cases hr), fun j hj => ?_⟩
    by_cases hji : j = i
    · subst hji; exact use hy H
    · have := ready_mono hj hji
      rw [H.1] at this
      cases this
  | succ fuel ih =>
    intro listed T hfree hr hy H
    refine ⟨fun h => (by rw [h] at hr; cases hr), fun j hj => ?_⟩
    by_cases hji : j = i
    · subst hji; exact use hy H
    · have h1 := H.2 j (ready_mono hj hji)
      obtain ⟨hjun, oj, hoj, hall⟩ := mem_ready.1 hj
      rw [List.getElem?_toArray] at hoj
      have hnot : ∀ e ∈ oj.after, Region.binds .any e = true → e.on ≠ i := fun e he hb heq => by
        have h1 := hall e he hb
        have h0 := (mem_ready.1 hr).1
        rw [heq] at h1
        rcases Nat.lt_or_ge i listed.size with h' | h'
        · simp [h'] at h0 h1; rw [h0] at h1; cases h1
        · simp [Array.getElem?_eq_none h'] at h1
      obtain ⟨hap, hsj⟩ := hfree j oj hoj hji hjun hnot
      have h2 := opA_put hoj hap hsi hsj hy h1
      have hfree' : ∀ k ok, ops[k]? = some ok → k ≠ i → (listed.setIfInBounds j true).getD k true = false →
          (∀ e ∈ ok.after, Region.binds .any e = true → e.on ≠ i) → oi.apart ops.toArray ok = true ∧ stableOp ok.op = true := fun k ok hk hki hun hno => by
        refine hfree k ok hk hki ?_ hno
        by_cases hjk : j = k
        · subst hjk; exact hjun
        · rw [getD_set_ne true hjk] at hun; exact hun
      refine opA_mono hoj hsj (fun T' ⟨_, h3, h4⟩ => ih (listed.setIfInBounds j true) T' hfree' (ready_mono hr (Ne.symm hji)) h3 ?_) h2
      rw [Array.setIfInBounds_comm _ _ hji]
      exact h4

/-! ### the order of the text -/

def frees (ops : List Oper) (listed : Array Bool) (k : Nat) (ok : Oper) : Bool :=
  (List.range ops.length).all fun j => Nat.beq j k || listed.getD j true || (match ops[j]? with
    | some oj => (oj.after.any fun e => Region.binds .any e && Nat.beq e.on k) || (ok.apart ops.toArray oj && stableOp oj.op)
    | none => true)

def lexAt (ops : List Oper) : Nat → Nat → Array Bool → Bool
  | 0, _, listed => (Region.ready .any ops.toArray listed).isEmpty
  | f + 1, k, listed => (match ops[k]? with
      | some ok => bif stableOp ok.op then (Region.ready .any ops.toArray listed).contains k && frees ops listed k ok else (Region.ready .any ops.toArray listed) == [k]
      | none => false) && lexAt ops f (k + 1) (listed.setIfInBounds k true)

/-- May the region be walked in the order of its text? -/
def lexOk (ops : List Oper) : Bool := lexAt ops ops.length 0 (Array.replicate ops.length false)

theorem frees_spec {ops : List Oper} {listed : Array Bool} {k : Nat} {ok : Oper} (hf : frees ops listed k ok = true) :
    ∀ j oj, ops[j]? = some oj → j ≠ k → listed.getD j true = false → (∀ e ∈ oj.after, Region.binds .any e = true → e.on ≠ k) → ok.apart ops.toArray oj = true ∧ stableOp oj.op = true := by
  intro j oj hj hjk hun hno
  unfold frees at hf
  have hlt : j < ops.length := (List.getElem?_eq_some_iff.1 hj).1
  have h1 := List.all_eq_true.1 hf j (List.mem_range.2 hlt)
  have hb : Nat.beq j k = false := by rw [← Bool.not_eq_true, Nat.beq_eq]; exact hjk
  simp only [hb, hun, hj, Bool.false_or] at h1
  rw [Bool.or_eq_true] at h1
  rcases h1 with h1 | h1
  · rw [Array.any_eq_true'] at h1
    obtain ⟨e, he, hbe⟩ := h1
    rw [Bool.and_eq_true, Nat.beq_eq] at hbe
    exact absurd hbe.2 (hno e he hbe.1)
  · rwa [Bool.and_eq_true] at h1

theorem sstep_of {ops : List Oper} {o : Oper} (hs : stableOp o.op = true) {K : St → Prop} {S : St}
    (hg : gstep ops N o.guard o.dst (stepD P N o K) K S) : ∃ (S1 : St) (v : SV), look S1.t = look S.t ∧ S1.h = S.h ∧ YA P N ops o (look S.t) S.h v ∧ K (S1.put o.dst v) := by
  have st : ∀ S1 : St, look S1.t = look S.t → S1.h = S.h → Wtd ops o.guard (look S.t) true → stepD P N o K S1 → ∃ v, YA P N ops o (look S.t) S.h v ∧ K (S1.put o.dst v) := by
    intro S1 e1 e2 hw hd
    unfold stepD at hd
    rw [hs] at hd
    simp only [cond_true] at hd
    obtain ⟨hdst, hd⟩ := hd
    unfold resD at hd
    rw [ev_look, e1, e2] at hd
    split at hd
    · rename_i pre v hv
      exact ⟨v, ⟨hdst, .inl ⟨hw, .inl ⟨pre, hv, hd.1⟩⟩⟩, hd.2⟩
    · exact hd.elim
    · unfold effD at hd
      split at hd
      · rename_i f args ts hop
        unfold pcallK at hd
        split at hd
        · rename_i g first captured hf
          obtain ⟨r, hc, hK⟩ := hd
          rw [ev_look, e1] at hf hc
          exact ⟨r, ⟨hdst, .inl ⟨hw, .inr ⟨f, args, ts, g, first, captured, hop, hf, hc⟩⟩⟩, hK⟩
        · exact hd.elim
      · exact hd.elim
  unfold gstep at hg
  split at hg
  · rename_i hgd
    obtain ⟨v, h1, h2⟩ := st S rfl rfl (by rw [hgd]; rfl) hg
    exact ⟨S, v, rfl, rfl, h1, h2⟩
  · rename_i j want hgd
    unfold guardK at hg
    split at hg
    · exact hg.elim
    · rename_i t ht
      unfold guardB at hg
      split at hg
      · rename_i b hb
        have same : look (S.put (some t) (.sc (.bool b))).t = look S.t := by
          rw [look_put]
          funext i
          simp only [putF]
          by_cases hi : Nat.beq t i = true
          · rw [hi]; rw [Nat.beq_eq] at hi; subst hi; exact hb.symm
          · simp only [Bool.not_eq_true] at hi; rw [hi]; rfl
        have yes : Wtd ops o.guard (look S.t) (b == want) := by rw [hgd]; exact ⟨t, ht, .inl ⟨b, hb, rfl⟩⟩
        cases b
        · simp only [Bool.false_eq_true, if_false] at hg
          cases want
          · obtain ⟨v, h1, h2⟩ := st _ same (h_put _ _ _) yes hg
            exact ⟨_, v, same, h_put _ _ _, h1, h2⟩
          · exact ⟨_, .sc undef, same, h_put _ _ _, ⟨hg.1, .inr ⟨yes, rfl⟩⟩, hg.2⟩
        · simp only [if_true] at hg
          cases want
          · exact ⟨_, .sc undef, same, h_put _ _ _, ⟨hg.1, .inr ⟨yes, rfl⟩⟩, hg.2⟩
          · obtain ⟨v, h1, h2⟩ := st _ same (h_put _ _ _) yes hg
            exact ⟨_, v, same, h_put _ _ _, h1, h2⟩
      · rename_i c hc
        have no : Wtd ops o.guard (look S.t) false := by rw [hgd]; exact ⟨t, ht, .inr ⟨c, hc, rfl⟩⟩
        exact ⟨S, .sc undef, rfl, rfl, ⟨hg.1, .inr ⟨no, rfl⟩⟩, hg.2⟩
      · exact hg.elim

/-- Nothing is asked of a state but what its temporaries hold. -/
def LookOnly (K : St → Prop) : Prop := ∀ S S' : St, look S.t = look S'.t → S.h = S'.h → K S → K S'

theorem gstep_mono {ops : List Oper} {g : Option (Nat × Bool)} {dst : Option Tmp} {A A' K K' : St → Prop} {S : St} (hA : ∀ S, A S → A' S) (hK : ∀ S, K S → K' S) (h : gstep ops N g dst A K S) : gstep ops N g dst A' K' S := by
  cases g with
  | none => exact hA _ h
  | some jw =>
    obtain ⟨j, want⟩ := jw
    simp only [gstep] at h ⊢
    cases ht : gdst ops j with
    | none => rw [ht] at h; exact h.elim
    | some t =>
      rw [ht] at h
      simp only [guardK] at h ⊢
      generalize look S.t t = x at *
      unfold guardB at *
      split at h
      · rename_i b
        cases b
        · simp only [Bool.false_eq_true, if_false] at h ⊢
          cases want
          · exact hA _ h
          · exact ⟨h.1, hK _ h.2⟩
        · simp only [if_true] at h ⊢
          cases want
          · exact ⟨h.1, hK _ h.2⟩
          · exact hA _ h
      · exact ⟨h.1, hK _ h.2⟩
      · exact h.elim

theorem stepK_mono {o : Oper} {K K' : St → Prop} {S : St} (hK : ∀ S, K S → K' S) (h : stepK P N o K S) : stepK P N o K' S := by
  obtain ⟨hd, h⟩ := h
  refine ⟨hd, ?_⟩
  unfold resK at *
  split at h
  · exact ⟨h.1, hK _ h.2⟩
  · exact ⟨h.1, fun b hb => hK _ (h.2 b hb)⟩
  · unfold effK at *
    split at h
    · unfold storeK at *
      split at h
      · split at h
        · exact ⟨h.1, h.2.1, hK _ h.2.2⟩
        · exact h
      · exact h
    · unfold callK at *
      split at h
      · exact Call.mono h (fun _ _ x => hK _ x)
      · exact h
    · rename_i s x st xt _
      cases hN : notInt P xt with
      | true =>
        rw [hN] at h
        simp only [cond_true] at h ⊢
        unfold appK at *
        split at h
        · obtain ⟨h1, h2, h3, h4, h5, h6⟩ := h
          refine ⟨h1, h2, h3, h4, h5, ?_⟩
          split at h6
          · exact ⟨h6.1, h6.2.1, fun x => hK _ (h6.2.2.1 x), fun x b hb => hK _ (h6.2.2.2 x b hb)⟩
          · unfold appOsK at *
            split at h6
            · obtain ⟨g1, g2, g3, g4, g5, g6⟩ := h6
              exact ⟨g1, g2, g3, g4, g5, fun b hb => hK _ (g6 b hb)⟩
            · exact h6
          · exact h6
        · exact h
      | false =>
        rw [hN] at h
        simp only [cond_false] at h ⊢
        cases hI : (ik P xt).isSome with
        | true =>
          rw [hI] at h
          simp only [cond_true] at h ⊢
          unfold appZK at *
          split at h
          · obtain ⟨h1, h2, h3, h4, h5, h6⟩ := h
            exact ⟨h1, h2, h3, h4, h5, fun b hb => hK _ (h6 b hb)⟩
          · exact h
        | false =>
          rw [hI] at h
          exact h.elim
    · exact h

theorem anyA_lex {ops : List Oper} {K : St → Prop} : ∀ (l : List Oper) (k : Nat) (listed : Array Bool) (S : St), (∀ j, l[j]? = ops[k + j]?) →
    lexAt ops l.length k listed = true → vcD P N ops l K S → anyA P N ops (fun T h => ∃ S', look S'.t = T ∧ S'.h = h ∧ K S') l.length listed (look S.t) S.h
  | [], _, _, S, _, hB, h => ⟨by simpa [lexAt] using hB, S, rfl, rfl, h⟩
  | o :: l, k, listed, S, hl, hB, h => by
    have h0 : ops[k]? = some o := by simpa using (hl 0).symm
    simp only [List.length_cons, lexAt, h0, Bool.and_eq_true] at hB
    obtain ⟨hr, hB'⟩ := hB
    have hl' : ∀ j, l[j]? = ops[k + 1 + j]? := fun j => by have := hl (j + 1); simpa [Nat.add_assoc, Nat.add_comm 1 j] using this
    by_cases hs : stableOp o.op = true
    · rw [hs] at hr
      simp only [cond_true, Bool.and_eq_true] at hr
      obtain ⟨S1, v, e1, e2, hy, hK⟩ := sstep_of hs h
      refine anyA_first h0 hs l.length listed _ (frees_spec hr.2) (by simpa using hr.1) hy ?_
      have := anyA_lex l (k + 1) _ _ hl' hB' hK
      rw [look_put, h_put, e1, e2] at this
      exact this
    · simp only [Bool.not_eq_true] at hs
      rw [hs] at hr
      simp only [cond_false, beq_iff_eq] at hr
      refine ⟨fun h => (by rw [hr] at h; cases h), fun i hi => ?_⟩
      rw [hr] at hi
      obtain rfl : i = k := by simpa using hi
      unfold opA
      simp only [h0, hs, cond_false]
      refine ⟨S, rfl, rfl, ?_⟩
      unfold vcD at h
      refine gstep_mono (fun S' hS => ?_) (fun S' hS => anyA_lex l (i + 1) _ _ hl' hB' hS) h
      unfold stepD at hS
      rw [hs] at hS
      exact stepK_mono (fun S'' hS => anyA_lex l (i + 1) _ _ hl' hB' hS) hS

/-- **A region that draws its order, walked in the order of its text.** -/
theorem vcD_sound {ops : List Oper} {id : Nat} {Q : Exit → Act → World → Prop} {K : St → Prop} (hm : P.follows .mixedOrders = true) (hB : lexOk ops = true) (hK : ∀ S a w, K S → Rel M w0 D N S a w → Q .normal a w)
    {S : St} {a : Act} (hr : Rel M w0 D N S a w) (h : vcD P N ops ops K S) : (Code.region id ops.toArray true).wp P Q a w := by
  refine wp_region_any hm ?_
  have hr' : Rel M w0 D N S a (drw w) := ⟨hr.defers, hr.n, fun i => (hr.t i).mono (env_drw _ _), hr.own.drw, hr.frm.trans (frm_drw (fun _ => False) w) (fun _ _ x => x.elim), hr.new⟩
  have := anyA_lex ops 0 (Array.replicate ops.length false) S (by simp) hB h
  have := anyA_sound (Q := Q) (K := fun T h => ∃ S', look S'.t = T ∧ S'.h = h ∧ K S') (fun S a w hx hr => by
    obtain ⟨S', e1, e2, hS⟩ := hx
    exact hK S' a w hS (hr.look_eq e1 e2)) _ _ S a _ hr' this
  simpa [drw] using this

end
end Go.Ab
