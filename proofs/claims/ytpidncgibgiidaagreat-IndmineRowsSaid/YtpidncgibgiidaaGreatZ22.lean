/- The abstract layer, part Z22: regions that draw their order, where operations that make blocks may be taken late. -/
import Derived.Test.YtpidncgibgiidaaGreatZ18
set_option linter.unusedVariables false
set_option linter.unusedSectionVars false
set_option linter.unusedSimpArgs false
namespace Go.Ab
open Go.RowKit
section
variable {P : Program} {M : Nat → Prop} {w0 : World} {D : Nat → Prop} {N : Nat}
theorem Rel.perm [Gl] {S : St} {a : Act} {w : World} {h' : Heap} (hp : h'.Perm S.h) (hr : Rel M w0 D N S a w) : Rel M w0 D N ⟨S.t, h'⟩ a w :=
  St.le_sublist (t := S.t) (h := S.h) (fun x hx => hp.mem_iff.1 hx) (fun hn => (hp.map _).nodup_iff.2 hn) M w0 D N a w hr
def anyP [Gl] (P : Program) (N : Nat) (ops : List Oper) (K : (Nat → SV) → Heap → Prop) : Nat → Array Bool → (Nat → SV) → Heap → Prop
  | 0, listed, T, h => Region.ready .any ops.toArray listed = [] ∧ ∃ h' : Heap, h'.Perm h ∧ K T h'
  | f + 1, listed, T, h => ∃ h' : Heap, h'.Perm h ∧ (Region.ready .any ops.toArray listed = [] → K T h') ∧
    ∀ i ∈ Region.ready .any ops.toArray listed, opZ P N ops i (anyP P N ops K f (listed.setIfInBounds i true)) T h'
theorem anyP_perm [Gl] {ops : List Oper} {K : (Nat → SV) → Heap → Prop} {f : Nat} {l : Array Bool} {T : Nat → SV} {h1 h2 : Heap} (hp : h1.Perm h2) (h : anyP P N ops K f l T h1) : anyP P N ops K f l T h2 := by
  cases f with
  | zero =>
    obtain ⟨h0, h', q, k⟩ := h
    exact ⟨h0, h', q.trans hp, k⟩
  | succ f =>
    obtain ⟨h', q, k⟩ := h
    exact ⟨h', q.trans hp, k⟩
theorem opZ_sound [Gl] {ops : List Oper} {i : Nat} {Q : Exit → Act → World → Prop} {K : (Nat → SV) → Heap → Prop} {R : Act → World → Prop} (hK : ∀ S a w, K (look S.t) S.h → Rel M w0 D N S a w → R a w) {S : St} {a : Act} {w : World} (hr : Rel M w0 D N S a w)
    (hop : opZ P N ops i K (look S.t) S.h) : wpOp P ops.toArray Q i R a w := by
  unfold opZ at hop
  unfold wpOp
  simp only [List.getElem?_toArray]
  split
  · rename_i ho
    simp only [ho] at hop
    exact hK S a w hop hr
  · rename_i o ho
    simp only [ho] at hop
    by_cases hs : stableOp o.op = true
    · rw [hs] at hop
      simp only [cond_true] at hop
      obtain ⟨v, ⟨hd, hy⟩, hn⟩ := hop
      have next : ∀ a' w', Rel M w0 D N (S.put o.dst v) a' w' → R a' w' := fun a' w' hr' => hK (S.put o.dst v) a' w' (by rw [look_put, h_put]; exact hn) hr'
      rcases hy with ⟨hw, hy⟩ | ⟨hw, rfl⟩
      · rw [if_pos (yielded_F hr hw)]
        exact .inl (yld_sound hr hd hy next)
      · rw [if_neg (by rw [yielded_F hr hw]; simp)]
        exact next _ _ (hr.put' hd (.sc _))
    · simp only [Bool.not_eq_true] at hs
      rw [hs] at hop
      simp only [cond_false] at hop
      cases hn : (newOp o.op && o.guard.isNone) with
      | true =>
        rw [hn] at hop
        simp only [cond_true] at hop
        rw [Bool.and_eq_true] at hn
        have hgo : o.guard = none := by simpa using hn.2
        obtain ⟨hd, hv⟩ := hop
        rw [if_pos (by unfold Region.wanted; rw [hgo])]
        refine .inl (Oper.wp_mono (fun a' w' ⟨S'', h1, h2⟩ => hK S'' a' w' h1 h2) (stepK_sound (K := fun S' => K (look S'.t) S'.h) hr ?_))
        refine ⟨hd, ?_⟩
        rw [ev_look]
        unfold resN at hv
        unfold resK
        split at hv
        · rename_i pre v hx
          rw [hx]
          exact ⟨hv.1, by show K (look (S.put o.dst v).t) (S.put o.dst v).h; rw [look_put, h_put]; exact hv.2⟩
        · rename_i pre k mk hx
          rw [hx]
          exact ⟨hv.1, fun b hb => by show K (look ((⟨S.t, (b, k) :: S.h⟩ : St).put o.dst (mk b)).t) ((⟨S.t, (b, k) :: S.h⟩ : St).put o.dst (mk b)).h; rw [look_put, h_put]; exact hv.2 b hb⟩
        · exact hv.elim
      | false =>
        rw [hn] at hop
        simp only [cond_false] at hop
        obtain ⟨S1, e1, e2, hg⟩ := hop
        have hr1 := hr.look_eq e1 e2
        obtain ⟨S', hr', h'⟩ := gstep_sound (ops := ops) hr1 hg
        rcases h' with ⟨hw, hA⟩ | ⟨hw, hd, hB⟩
        · rw [if_pos hw]
          exact .inl (Oper.wp_mono (fun a' w' ⟨S'', h1, h2⟩ => hK S'' a' w' h1 h2) (stepK_sound hr' hA))
        · rw [if_neg (by rw [hw]; simp)]
          exact hK _ _ _ hB (hr'.put' hd (.sc _))
theorem anyP_sound [Gl] {ops : List Oper} {Q : Exit → Act → World → Prop} {K : (Nat → SV) → Heap → Prop} (hK : ∀ S a w, K (look S.t) S.h → Rel M w0 D N S a w → Q .normal a w) :
    ∀ (f : Nat) (listed : Array Bool) (S : St) (a : Act) (w : World), Rel M w0 D N S a w → anyP P N ops K f listed (look S.t) S.h → wpAny P .any ops.toArray Q f listed a w
  | 0, listed, S, a, w, hr, ⟨h0, h', q, k⟩ => ⟨h0, hK ⟨S.t, h'⟩ a w k (hr.perm q)⟩
  | f + 1, listed, S, a, w, hr, ⟨h', q, k1, k2⟩ => ⟨fun h0 => hK ⟨S.t, h'⟩ a w (k1 h0) (hr.perm q), fun i hi => opZ_sound (S := ⟨S.t, h'⟩) (fun S' a' w' hk hr'' => anyP_sound hK f _ S' a' w' hr'' hk) (hr.perm q) (k2 i hi)⟩
theorem anyP_firstS [Gl] {ops : List Oper} {K : (Nat → SV) → Heap → Prop} {i : Nat} {oi : Oper} {v : SV} (hi : ops[i]? = some oi) (hsi : stableOp oi.op = true) (W : Nat → Bool)
    (hW : ∀ m om, ops[m]? = some om → W m = true → m = i ∨ ∃ e ∈ om.after, Region.binds .any e = true ∧ W e.on = true) (l0 : Array Bool)
    (free : ∀ j oj, ops[j]? = some oj → W j = false → l0.getD j true = false → oi.apart ops.toArray oj = true ∧ kindS oj = true) :
    ∀ (fuel : Nat) (listed : Array Bool) (T : Nat → SV) (h : Heap), (∀ m, W m = true → listed.getD m true = false) → (∀ j, listed.getD j true = false → l0.getD j true = false) →
      i ∈ Region.ready .any ops.toArray listed → YA P N ops oi T [] v →
      anyP P N ops K fuel (listed.setIfInBounds i true) (putF T oi.dst v) h → anyP P N ops K (fuel + 1) listed T h := by
  have use : ∀ {K' : (Nat → SV) → Heap → Prop} {T : Nat → SV} {h : Heap}, YA P N ops oi T [] v → K' (putF T oi.dst v) h → opZ P N ops i K' T h := fun hy hk => by
    unfold opZ; simp only [hi, hsi, cond_true]; exact ⟨v, YA_nil hsi hy, hk⟩
  intro fuel
  induction fuel with
  | zero =>
    intro listed T h _ _ hr hy H
    refine ⟨h, List.Perm.refl _, fun h => (by rw [h] at hr; cases hr), fun j hj => ?_⟩
    by_cases hji : j = i
    · subst hji; exact use hy H
    · have := ready_mono hj hji
      rw [H.1] at this
      cases this
  | succ fuel ih =>
    intro listed T h hw hl hr hy H
    obtain ⟨h', q, H1, H2⟩ := H
    refine ⟨h', q, fun h => (by rw [h] at hr; cases hr), fun j hj => ?_⟩
    by_cases hji : j = i
    · subst hji; exact use hy ⟨h', List.Perm.refl _, H1, H2⟩
    · have h1 := H2 j (ready_mono hj hji)
      obtain ⟨hjun, oj, hoj, hall⟩ := mem_ready.1 hj
      rw [List.getElem?_toArray] at hoj
      have hWj : W j = false := by
        cases hWj : W j with
        | false => rfl
        | true =>
          rcases hW j oj hoj hWj with e | ⟨e, he, hb, hWe⟩
          · exact absurd e hji
          · have h2 := hall e he hb
            have h3 := hw _ hWe
            rcases Nat.lt_or_ge e.on listed.size with h' | h'
            · simp [h'] at h2 h3; rw [h3] at h2; cases h2
            · simp [Array.getElem?_eq_none h'] at h3
      obtain ⟨hap, hkj⟩ := free j oj hoj hWj (hl j hjun)
      have h2 := opZ_putS hoj hap hsi hkj hy h1
      refine opZ_monoS hoj hkj (fun T' h' ⟨h3, h4⟩ => ih (listed.setIfInBounds j true) T' h' (fun m hm => ?_) (fun k hk => ?_) (ready_mono hr (Ne.symm hji)) h3 ?_) h2
      · by_cases e : j = m
        · subst e; rw [hWj] at hm; cases hm
        · rw [getD_set_ne true e]; exact hw m hm
      · by_cases e : j = k
        · subst e; exact hl j hjun
        · rw [getD_set_ne true e] at hk; exact hl k hk
      · rw [Array.setIfInBounds_comm _ _ hji]
        exact h4
/-! ### late operations -/
def isOsS : SV → Prop
  | .os _ _ _ _ => True
  | _ => False
theorem isOsS_iff {x : SV} : isOsS x ↔ ∃ b off n sz, x = .os b off n sz := by
  constructor
  · intro h
    cases x <;> first | exact h.elim | exact ⟨_, _, _, _, rfl⟩
  · rintro ⟨b, off, n, sz, rfl⟩
    trivial
theorem valOp_newh [Gl] {op : Op} (hn : newOp op = true) (ρ : Operand → SV) (h h' : Heap) : valOp P op ρ h = valOp P op ρ h' := by
  cases op <;> first | rfl | cases hn
theorem fresh_ex (h : Heap) : ∃ b, fresh h b := by
  have key : ∀ l : List Nat, ∀ x ∈ l, x ≤ l.sum := fun l => by
    induction l with
    | nil => intro x hx; cases hx
    | cons a l ih =>
      intro x hx
      rw [List.sum_cons]
      rcases List.mem_cons.1 hx with rfl | hx
      · omega
      · have := ih x hx; omega
  refine ⟨(h.map (·.1)).sum + 1, fresh_of fun hh => ?_⟩
  have := key _ _ (has_map.1 hh)
  omega
theorem fresh_permH {h1 h2 : Heap} (hp : h1.Perm h2) {b : Nat} (hf : fresh h1 b) : fresh h2 b := fresh_of fun ⟨k, hk⟩ => not_has_of_fresh hf ⟨k, hp.mem_iff.2 hk⟩
theorem fresh_ren : ∀ {h : Heap} {c b' : Nat} {k' : Blk} {b : Nat}, fresh h b → b ≠ b' → fresh (h.ren c b' k') b
  | [], _, _, _, _, _, _ => trivial
  | (d, k) :: r, c, b', k', b, hf, hb => by
    rw [ren_cons]
    split
    · exact ⟨⟨Ne.symm hb, hb⟩, hf.2⟩
    · exact ⟨hf.1, fresh_ren hf.2 hb⟩
def isApp : Op → Bool
  | .call ⟨.builtin .append, ⟨[_, _]⟩, ⟨[_, _]⟩⟩ => true
  | _ => false
def fstOp (o : Oper) : Bool := o.guard.isNone && (newOp o.op || isApp o.op)
def osA [Gl] (P : Program) (o : Oper) (T : Nat → SV) : Prop := match o.op with
  | .call ⟨.builtin .append, ⟨[s, x]⟩, ⟨[_, xt]⟩⟩ => notInt P xt = true ∧ sameB (evF T s) (evF T x) = false ∧ ∃ b off n sz, evF T s = .os b off n sz
  | _ => True
theorem osA_put [Gl] {ops : List Oper} {o : Oper} {T : Nat → SV} {d : Option Tmp} {v : SV} (ha : Away ops o d) (h : osA P o T) : osA P o (putF T d v) := by
  have he := evF_putF (ops := ops) (o := o) (T := T) (v := v) ha
  obtain ⟨od, oop, oty, ops', oaf, og⟩ := o
  unfold osA at h ⊢
  simp only at h he ⊢
  split at h
  · rename_i s x st xt
    rw [he s (by simp [Op.operands, Go.Call.operands]), he x (by simp [Op.operands, Go.Call.operands])]
    exact h
  · trivial
theorem newOp_notstable {op : Op} (h : newOp op = true) : stableOp op = false := by
  cases op <;> first | rfl | cases h
theorem isApp_notstable {op : Op} (h : isApp op = true) : stableOp op = false ∧ newOp op = false := by
  unfold isApp at h
  split at h
  · exact ⟨rfl, rfl⟩
  · cases h
theorem opZ_new [Gl] {ops : List Oper} {i : Nat} {o : Oper} (ho : ops[i]? = some o) (hn : newOp o.op = true) (hg : o.guard = none) {K : (Nat → SV) → Heap → Prop} {T : Nat → SV} {h : Heap} : opZ P N ops i K T h ↔ dstOk N o.dst ∧ resN (valOp P o.op (evF T) h) o.dst K T h := by
  unfold opZ
  simp only [ho, newOp_notstable hn, hn, hg]
  rfl
theorem opZ_monoF [Gl] {ops : List Oper} {h : Heap} {i : Nat} {o : Oper} (ho : ops[i]? = some o) (hs : fstOp o = true) {K K' : (Nat → SV) → Heap → Prop} {T : Nat → SV} (hk : ∀ T h, K T h → K' T h) (hh : opZ P N ops i K T h) : opZ P N ops i K' T h := by
  unfold fstOp at hs
  rw [Bool.and_eq_true, Bool.or_eq_true] at hs
  refine opZ_monoS ho ?_ hk hh
  unfold kindS kindZ
  rcases hs.2 with h1 | h1
  · rw [h1, hs.1]
    simp
  · have : effOp o.op = true := by
      unfold isApp at h1
      unfold effOp
      split at h1
      · rename_i e; rw [e]
      · cases h1
    rw [this, hs.1]
    simp
theorem swapF [Gl] {ops : List Oper} {i j : Nat} {oi oj : Oper} (hi : ops[i]? = some oi) (hj : ops[j]? = some oj) (hni : newOp oi.op = true) (hgi : oi.guard = none) (hfj : fstOp oj = true) (hap : oi.apart ops.toArray oj = true)
    {K : (Nat → SV) → Heap → Prop} (hK : ∀ T h1 h2, List.Perm h1 h2 → K T h1 → K T h2) {T : Nat → SV} {h : Heap} (hos : osA P oj T)
    (H : opZ P N ops j (fun T' h' => ∃ h'' : Heap, h''.Perm h' ∧ opZ P N ops i K T' h'') T h) : opZ P N ops i (fun T' h' => osA P oj T' ∧ opZ P N ops j K T' h') T h := by
  obtain ⟨a1, a2, a3⟩ := Oper.apart_spec hap
  have haj : Away ops oj oi.dst := fun t ht => a1 t ht
  have hai : Away ops oi oj.dst := fun t ht => a3 t ht
  have hvi : ∀ (v : SV) (h1 h2 : Heap), valOp P oi.op (evF (putF T oj.dst v)) h1 = valOp P oi.op (evF T) h2 := fun v h1 h2 => by
    have hdet : detOp oi.op = true := by
      unfold detOp
      rw [hni, Bool.or_true, Bool.and_true]
      cases ho : oi.op <;> first | rfl | (rw [ho] at hni; simp [newOp] at hni)
    rw [valOp_congrN hdet h1 (evF_putF hai), valOp_newh hni]
  rw [opZ_new hi hni hgi]
  have hfj' := hfj
  unfold fstOp at hfj
  rw [Bool.and_eq_true, Bool.or_eq_true] at hfj
  have hgj : oj.guard = none := by simpa using hfj.1
  have key : ∀ (v : SV) (h' : Heap), (∃ h'' : Heap, h''.Perm h' ∧ opZ P N ops i K (putF T oj.dst v) h'') → dstOk N oi.dst ∧ (match valOp P oi.op (evF T) h with
      | .ok pre u => pre ∧ K (putF (putF T oi.dst u) oj.dst v) h'
      | .new pre k mk => pre ∧ ∀ b, fresh h' b → K (putF (putF T oi.dst (mk b)) oj.dst v) ((b, k) :: h')
      | .bad => False) := fun v h' ⟨h'', q, hh⟩ => by
    rw [opZ_new hi hni hgi, hvi v h'' h] at hh
    refine ⟨hh.1, ?_⟩
    have h2 := hh.2
    generalize valOp P oi.op (evF T) h = R2 at h2 ⊢
    unfold resN at h2
    cases R2 with
    | bad => exact h2.elim
    | ok pre u =>
      refine ⟨h2.1, hK _ _ _ q ?_⟩
      have := h2.2
      rw [← putF_comm T u v a2] at this
      exact this
    | new pre k mk =>
      refine ⟨h2.1, fun b hb => hK _ _ _ (q.cons _) ?_⟩
      have := h2.2 b (fresh_permH q.symm hb)
      rw [← putF_comm T (mk b) v a2] at this
      exact this
  rcases hfj.2 with hnj | haj2
  · -- two operations that make blocks
    have hvj : ∀ (v : SV) (h1 : Heap), valOp P oj.op (evF (putF T oi.dst v)) h1 = valOp P oj.op (evF T) h := fun v h1 => by
      have hdet : detOp oj.op = true := by
        unfold detOp
        rw [hnj, Bool.or_true, Bool.and_true]
        cases ho : oj.op <;> first | rfl | (rw [ho] at hnj; simp [newOp] at hnj)
      rw [valOp_congrN hdet h1 (evF_putF haj), valOp_newh hnj]
    rw [opZ_new hj hnj hgj] at H
    obtain ⟨dj, H⟩ := H
    have fin : ∀ (v : SV) (h1 : Heap), resN (valOp P oj.op (evF T) h) oj.dst K (putF T oi.dst v) h1 → osA P oj (putF T oi.dst v) ∧ opZ P N ops j K (putF T oi.dst v) h1 := fun v h1 hr => ⟨osA_put haj hos, (opZ_new hj hnj hgj).2 ⟨dj, by rw [hvj v h1]; exact hr⟩⟩
    generalize valOp P oj.op (evF T) h = R at H fin
    unfold resN at H
    cases R with
    | bad => exact H.elim
    | ok prej v =>
      obtain ⟨p1, H⟩ := H
      obtain ⟨di, k1⟩ := key v h H
      refine ⟨di, ?_⟩
      generalize valOp P oi.op (evF T) h = R2 at k1
      unfold resN
      cases R2 with
      | bad => exact k1.elim
      | ok pre u => exact ⟨k1.1, fin u h ⟨p1, k1.2⟩⟩
      | new pre k mk => exact ⟨k1.1, fun b hb => fin _ _ ⟨p1, k1.2 b hb⟩⟩
    | new prej kj mkj =>
      obtain ⟨p1, H⟩ := H
      have k1 := fun b hb => key (mkj b) _ (H b hb)
      obtain ⟨b0, hb0⟩ := fresh_ex h
      refine ⟨(k1 b0 hb0).1, ?_⟩
      generalize valOp P oi.op (evF T) h = R2 at k1
      unfold resN
      cases R2 with
      | bad => exact (k1 b0 hb0).2.elim
      | ok pre u => exact ⟨(k1 b0 hb0).2.1, fin u h ⟨p1, fun b hb => (k1 b hb).2.2⟩⟩
      | new pre k mk =>
        refine ⟨(k1 b0 hb0).2.1, fun b hb => fin _ _ ⟨p1, fun b2 hb2 => ?_⟩⟩
        have hbb : b ≠ b2 := hb2.1.1
        exact hK _ _ _ (List.Perm.swap _ _ _) ((k1 b2 hb2.2).2.2 b ⟨⟨Ne.symm hbb, hbb⟩, hb⟩)
  · -- an append
    obtain ⟨ns, nn⟩ := isApp_notstable haj2
    obtain ⟨K1, hK1⟩ : ∃ K1 : (Nat → SV) → Heap → Prop, ∀ T' h', K1 T' h' ↔ ∃ h'' : Heap, h''.Perm h' ∧ opZ P N ops i K T' h'' := ⟨_, fun _ _ => Iff.rfl⟩
    replace H : opZ P N ops j K1 T h := opZ_monoF hj hfj' (fun T' h' hh => (hK1 T' h').2 hh) H
    unfold opZ at H
    simp only [hj, ns, nn, Bool.false_and, cond_false] at H
    obtain ⟨S, e1, e2, hg⟩ := H
    rw [hgj] at hg
    simp only [gstep] at hg
    have back : ∀ (v : SV) (h1 : Heap), (stepK P N oj (fun S' => K (look S'.t) S'.h) ((⟨S.t, h1⟩ : St).put oi.dst v)) → osA P oj (putF T oi.dst v) ∧ opZ P N ops j K (putF T oi.dst v) h1 := fun v h1 hst => by
      refine ⟨osA_put haj hos, ?_⟩
      unfold opZ
      simp only [hj, ns, nn, Bool.false_and, cond_false]
      refine ⟨(⟨S.t, h1⟩ : St).put oi.dst v, by rw [look_put]; simp only; rw [e1], by rw [h_put], ?_⟩
      rw [hgj]
      exact hst
    have hev : ∀ (v : SV) (h1 : Heap), ∀ y ∈ oj.op.operands, ((⟨S.t, h1⟩ : St).put oi.dst v).ev y = S.ev y := fun v h1 y hy => by
      rw [ev_look, ev_look, look_put]
      show evF (putF (look S.t) oi.dst v) y = _
      exact evF_putF haj y hy
    have hosT : osA P oj (look S.t) := by rw [e1]; exact hos
    obtain ⟨od, oop, oty, ops', oaf, og⟩ := oj
    simp only at hgj haj2 hosT hg back hev key
    unfold isApp at haj2
    split at haj2
    · rename_i s x st xt
      unfold osA at hosT
      simp only at hosT
      obtain ⟨q1, q2, c, off, n, sz, q3⟩ := hosT
      have es : S.ev s = .os c off n sz := by rw [ev_look]; exact q3
      have esx : sameB (S.ev s) (S.ev x) = false := by rw [ev_look]; exact q2
      have hst : ∀ (v : SV) (h1 : Heap) (K1 : St → Prop), appK (slk P st) (elemZ P st) true (.os c off n sz) (S.ev x) od K1 ((⟨S.t, h1⟩ : St).put oi.dst v) → dstOk N od → stepK P N ⟨od, .call ⟨.builtin .append, ⟨[s, x]⟩, ⟨[st, xt]⟩⟩, oty, ops', oaf, og⟩ K1 ((⟨S.t, h1⟩ : St).put oi.dst v) := fun v h1 K1 ha hd => by
        rw [stepK_append]
        rw [hev v h1 s (by simp [Op.operands, Go.Call.operands]), hev v h1 x (by simp [Op.operands, Go.Call.operands]), q1, cond_true, appX_false esx, es]
        exact ⟨hd, ha⟩
      rw [stepK_append, q1, cond_true, appX_false esx, es] at hg
      obtain ⟨dj, hg⟩ := hg
      unfold appK at hg
      have e2' : S.h = h := e2
      rw [e2'] at hg
      generalize hsc : srcCells (S.ev x) h = RS at hg
      revert hg hst
      generalize slk P st = L
      generalize elemZ P st = Z
      intro hst hg
      match L, Z, RS, hsc with
      | some (e, size, bytes), some z, some (m, cs), hsc =>
        simp only at hg
        obtain ⟨_, g2, g3, g4, g5, g6⟩ := hg
        unfold appOsK at g6
        rw [e2'] at g6
        cases hfd : h.find c with
        | none => simp only [hfd] at g6
        | some kc =>
          simp only [hfd] at g6
          obtain ⟨t1, t2, t3, t4, t5, t6⟩ := g6
          have kk := fun b' (hb' : fresh (h.del c) b') => key (.os b' 0 (n + m) sz) (h.ren c b' (appB kc cs)) (by
            have := t6 b' hb'
            change K1 (look (St.put _ _ _).t) (St.put _ _ _).h at this
            rw [look_put, h_put] at this
            simp only at this
            rw [e1, hK1] at this
            exact this)
          obtain ⟨b0, hb0⟩ := fresh_ex (h.del c)
          refine ⟨(kk b0 hb0).1, ?_⟩
          generalize valOp P oi.op (evF T) h = R2 at kk
          unfold resN
          cases R2 with
          | bad => exact (kk b0 hb0).2.elim
          | ok pre u =>
            refine ⟨(kk b0 hb0).2.1, back u h (hst u h _ ?_ dj)⟩
            unfold appK
            simp only [h_put, hsc]
            refine ⟨trivial, g2, g3, g4, g5, ?_⟩
            unfold appOsK
            simp only [h_put, hfd]
            refine ⟨t1, t2, t3, t4, t5, fun b' hb' => ?_⟩
            have := (kk b' hb').2.2
            change K (look (St.put _ _ _).t) _
            rw [look_put]
            simp only
            rw [look_put]
            simp only
            rw [e1]
            exact this
          | new pre k mk =>
            refine ⟨(kk b0 hb0).2.1, fun b hb => back (mk b) ((b, k) :: h) (hst (mk b) ((b, k) :: h) _ ?_ dj)⟩
            have hbc : b ≠ c := fun e => not_has_of_fresh hb (e ▸ ⟨kc, Heap.find_mem hfd⟩)
            have hfr : ∀ c' k', h.find c' = some k' → Heap.find ((b, k) :: h) c' = some k' := fun c' k' hf => by
              have hne : b ≠ c' := fun e => not_has_of_fresh hb (e ▸ ⟨k', Heap.find_mem hf⟩)
              rw [find_cons, if_neg hne, hf]
            have hsc2 : srcCells (S.ev x) ((b, k) :: h) = some (m, cs) := by
              unfold srcCells at hsc ⊢
              split at hsc <;> first | exact hsc | skip
              rename_i c' off' n' sz' _
              cases hf : h.find c' with
              | none => rw [hf] at hsc; cases hsc
              | some k' => rw [hf] at hsc; rw [hfr c' k' hf]; exact hsc
            have hok2 : srcOk size (S.ev x) ((b, k) :: h) := by
              unfold srcOk at g2 ⊢
              split at g2 <;> first | exact g2 | skip
              rename_i c' off' n' sz' _
              cases hf : h.find c' with
              | none => simp only [hf] at g2
              | some k' => simp only [hf] at g2; simp only [hfr c' k' hf]; exact g2
            unfold appK
            simp only [h_put, hsc2]
            refine ⟨trivial, hok2, g3, g4, g5, ?_⟩
            unfold appOsK
            simp only [h_put, hfr c kc hfd]
            refine ⟨t1, t2, t3, t4, t5, fun b' hb' => ?_⟩
            rw [del_cons, if_neg hbc] at hb'
            have hbb : b ≠ b' := hb'.1.1
            have := (kk b' hb'.2).2.2 b (fresh_ren hb hbb)
            change K (look (St.put _ _ _).t) _
            rw [look_put]
            simp only
            rw [look_put, ren_cons, if_neg hbc]
            simp only
            rw [e1]
            exact this
    · cases haj2
theorem opZ_noF [Gl] {ops : List Oper} {j : Nat} {oj : Oper} (hj : ops[j]? = some oj) (hfj : fstOp oj = true) {T : Nat → SV} {h : Heap} (hos : osA P oj T) (H : opZ P N ops j (fun _ _ => False) T h) : False := by
  unfold fstOp at hfj
  rw [Bool.and_eq_true, Bool.or_eq_true] at hfj
  have hgj : oj.guard = none := by simpa using hfj.1
  rcases hfj.2 with hnj | haj2
  · rw [opZ_new hj hnj hgj] at H
    obtain ⟨_, H⟩ := H
    unfold resN at H
    split at H
    · exact H.2
    · obtain ⟨b0, hb0⟩ := fresh_ex h
      exact H.2 b0 hb0
    · exact H
  · obtain ⟨ns, nn⟩ := isApp_notstable haj2
    unfold opZ at H
    simp only [hj, ns, nn, Bool.false_and, cond_false] at H
    obtain ⟨S, e1, e2, hg⟩ := H
    rw [hgj] at hg
    simp only [gstep] at hg
    have hosT : osA P oj (look S.t) := by rw [e1]; exact hos
    obtain ⟨od, oop, oty, ops', oaf, og⟩ := oj
    simp only at hgj haj2 hosT hg
    unfold isApp at haj2
    split at haj2
    · rename_i s x st xt
      unfold osA at hosT
      simp only at hosT
      obtain ⟨q1, q2, c, off, n, sz, q3⟩ := hosT
      have es : S.ev s = .os c off n sz := by rw [ev_look]; exact q3
      have esx : sameB (S.ev s) (S.ev x) = false := by rw [ev_look]; exact q2
      rw [stepK_append, q1, cond_true, appX_false esx, es] at hg
      obtain ⟨dj, hg⟩ := hg
      unfold appK at hg
      generalize srcCells (S.ev x) S.h = RS at hg
      generalize slk P st = L at hg
      generalize elemZ P st = Z at hg
      match L, Z, RS with
      | some (e, size, bytes), some z, some (m, cs) =>
        simp only at hg
        obtain ⟨_, _, _, _, _, g6⟩ := hg
        unfold appOsK at g6
        cases hfd : S.h.find c with
        | none => simp only [hfd] at g6
        | some kc =>
          simp only [hfd] at g6
          obtain ⟨_, _, _, _, _, t6⟩ := g6
          obtain ⟨b0, hb0⟩ := fresh_ex (S.h.del c)
          exact t6 b0 hb0
    · cases haj2
theorem anyP_fst [Gl] {ops : List Oper} {K : (Nat → SV) → Heap → Prop} {j : Nat} {oj : Oper} (hj : ops[j]? = some oj) (hfj : fstOp oj = true) (W : Nat → Bool)
    (hW : ∀ m om, ops[m]? = some om → W m = true → m = j ∨ ∃ e ∈ om.after, Region.binds .any e = true ∧ W e.on = true) (l0 : Array Bool)
    (free : ∀ i oi, ops[i]? = some oi → W i = false → l0.getD i true = false → oi.apart ops.toArray oj = true ∧ newOp oi.op = true ∧ oi.guard = none) :
    ∀ (fuel : Nat) (listed : Array Bool) (T : Nat → SV) (h : Heap), (∀ m, W m = true → listed.getD m true = false) → (∀ i, listed.getD i true = false → l0.getD i true = false) →
      j ∈ Region.ready .any ops.toArray listed → osA P oj T →
      opZ P N ops j (anyP P N ops K fuel (listed.setIfInBounds j true)) T h → anyP P N ops K (fuel + 1) listed T h := by
  intro fuel
  induction fuel with
  | zero =>
    intro listed T h hw hl hr hos H
    refine ⟨h, List.Perm.refl _, fun h => (by rw [h] at hr; cases hr), fun i hi => ?_⟩
    by_cases hij : i = j
    · subst hij; exact H
    · have hrd := ready_mono hi hij
      exact (opZ_noF hj hfj hos (opZ_monoF hj hfj (fun T' h' hh => by rw [hh.1] at hrd; cases hrd) H)).elim
  | succ fuel ih =>
    intro listed T h hw hl hr hos H
    refine ⟨h, List.Perm.refl _, fun h => (by rw [h] at hr; cases hr), fun i hi => ?_⟩
    by_cases hij : i = j
    · subst hij; exact H
    · have hrd := ready_mono hi hij
      obtain ⟨hiun, oi, hoi, hall⟩ := mem_ready.1 hi
      rw [List.getElem?_toArray] at hoi
      have hWi : W i = false := by
        cases hWi : W i with
        | false => rfl
        | true =>
          rcases hW i oi hoi hWi with e | ⟨e, he, hb, hWe⟩
          · exact absurd e hij
          · have h2 := hall e he hb
            have h3 := hw _ hWe
            rcases Nat.lt_or_ge e.on listed.size with h' | h'
            · simp [h'] at h2 h3; rw [h3] at h2; cases h2
            · simp [Array.getElem?_eq_none h'] at h3
      obtain ⟨hap, hni, hgi⟩ := free i oi hoi hWi (hl i hiun)
      have H2 : opZ P N ops j (fun T' h' => ∃ h'' : Heap, h''.Perm h' ∧ opZ P N ops i (anyP P N ops K fuel ((listed.setIfInBounds j true).setIfInBounds i true)) T' h'') T h :=
        opZ_monoF hj hfj (fun T' h' ⟨h'', q, _, k2⟩ => ⟨h'', q, k2 i hrd⟩) H
      have H3 := swapF (K := anyP P N ops K fuel ((listed.setIfInBounds j true).setIfInBounds i true)) hoi hj hni hgi hfj hap (fun T h1 h2 hp hh => anyP_perm hp hh) hos H2
      have hfi : fstOp oi = true := by unfold fstOp; rw [hni, hgi]; rfl
      refine opZ_monoF hoi hfi (fun T' h' ⟨q1, q2⟩ => ih (listed.setIfInBounds i true) T' h' (fun m hm => ?_) (fun k hk => ?_) (ready_mono hr (Ne.symm hij)) q1 ?_) H3
      · by_cases e : i = m
        · subst e; rw [hWi] at hm; cases hm
        · rw [getD_set_ne true e]; exact hw m hm
      · by_cases e : i = k
        · subst e; exact hl i hiun
        · rw [getD_set_ne true e] at hk; exact hl k hk
      · rw [Array.setIfInBounds_comm _ _ hij]
        exact q2
inductive OP where
  | done
  | nil
  | alt (i : Nat) (t r : OP)
  | fre (i : Nat) (W : List Nat) (t : OP)
  | fst (i : Nat) (W : List Nat) (t : OP)
def OP.heads : OP → List Nat
  | .alt i _ r => i :: r.heads
  | _ => []
def freeAllF (ops : List Oper) (oj : Oper) (W : List Nat) (l : Array Bool) : List Oper → Nat → Bool
  | [], _ => true
  | o :: r, j => (hasN W j || l.getD j true || (o.apart ops.toArray oj && newOp o.op && o.guard.isNone)) && freeAllF ops oj W l r (j + 1)
def fstOk (ops : List Oper) (i : Nat) (W : List Nat) (l : Array Bool) : Bool :=
  match ops[i]? with
  | none => false
  | some oi => fstOp oi && (Region.ready .any ops.toArray l).any (Nat.beq i) &&
    W.all (fun m => !l.getD m true && (Nat.beq m i || (match ops[m]? with
      | none => false
      | some om => om.after.any fun e => Region.binds .any e && hasN W e.on))) && freeAllF ops oi W l ops 0
def OP.root (ops : List Oper) (t : OP) (l : Array Bool) : Bool := match t with
  | .done => (Region.ready .any ops.toArray l).isEmpty
  | .nil => false
  | .fre i W _ => freOk ops i W l
  | .fst i W _ => fstOk ops i W l
  | t => Region.ready .any ops.toArray l == t.heads
def OP.chk (ops : List Oper) : OP → Nat → Array Bool → Bool
  | .alt i t r, 0, l => false
  | .alt i t r, f + 1, l => t.root ops (l.setIfInBounds i true) && t.chk ops f (l.setIfInBounds i true) && r.chk ops (f + 1) l
  | .fre i W t, 0, l => false
  | .fre i W t, f + 1, l => t.root ops (l.setIfInBounds i true) && t.chk ops f (l.setIfInBounds i true)
  | .fst i W t, 0, l => false
  | .fst i W t, f + 1, l => t.root ops (l.setIfInBounds i true) && t.chk ops f (l.setIfInBounds i true)
  | _, _, _ => true
def osO [Gl] (P : Program) (o : Option Oper) (S : St) : Prop := match o with
  | some o => osA P o (look S.t)
  | none => False
def vcP [Gl] (P : Program) (N : Nat) (ops : List Oper) (K : St → Prop) : OP → St → Prop
  | .done, S => K S
  | .nil, S => True
  | .alt i t r, S => stZ P N ops ops[i]? (vcP P N ops K t) S ∧ vcP P N ops K r S
  | .fre i _ t, S => stZ P N ops ops[i]? (fun S' => vcP P N ops K t ⟨S'.t, S.h⟩) ⟨S.t, []⟩
  | .fst i _ t, S => osO P ops[i]? S ∧ stZ P N ops ops[i]? (vcP P N ops K t) S
theorem freeAllF_spec {ops : List Oper} {oj : Oper} {W : List Nat} {l : Array Bool} : ∀ (r : List Oper) (k : Nat), freeAllF ops oj W l r k = true →
    ∀ j o, r[j]? = some o → hasN W (k + j) = false → l.getD (k + j) true = false → o.apart ops.toArray oj = true ∧ newOp o.op = true ∧ o.guard = none
  | [], _, _, j, o, ho, _, _ => by simp at ho
  | x :: r, k, h, j, o, ho, h1, h2 => by
    simp only [freeAllF, Bool.and_eq_true] at h
    cases j with
    | zero =>
      simp only [List.getElem?_cons_zero, Option.some.injEq] at ho
      subst ho
      have := h.1
      rw [Nat.add_zero] at h1 h2
      rw [h1, h2, Bool.false_or, Bool.false_or, Bool.and_eq_true, Bool.and_eq_true] at this
      exact ⟨this.1.1, this.1.2, by simpa using this.2⟩
    | succ j =>
      exact freeAllF_spec r (k + 1) h.2 j o (by simpa using ho) (by rw [← h1]; congr 1; omega) (by rw [← h2]; congr 1; omega)
theorem vcP_sound [Gl] {ops : List Oper} {K : St → Prop} {K' : (Nat → SV) → Heap → Prop} (hk : ∀ S, K S → K' (look S.t) S.h) : ∀ (t : OP),
    (∀ (f : Nat) (l : Array Bool) (S : St), t.root ops l = true → t.chk ops f l = true → vcP P N ops K t S → anyP P N ops K' f l (look S.t) S.h) ∧
    (∀ (f : Nat) (l : Array Bool) (S : St), t.chk ops (f + 1) l = true → vcP P N ops K t S → ∀ i ∈ t.heads, i ∈ Region.ready .any ops.toArray l → opZ P N ops i (anyP P N ops K' f (l.setIfInBounds i true)) (look S.t) S.h)
  | .done => by
    refine ⟨fun f l S h1 h2 h3 => ?_, fun f l S _ _ i hi => by cases hi⟩
    have h0 : Region.ready .any ops.toArray l = [] := by simpa [OP.root] using h1
    cases f with
    | zero => exact ⟨h0, _, List.Perm.refl _, hk S h3⟩
    | succ f => exact ⟨_, List.Perm.refl _, fun _ => hk S h3, fun i hi => by rw [h0] at hi; cases hi⟩
  | .nil => ⟨fun f l S h1 h2 h3 => (by cases h1), fun f l S _ _ i hi => by cases hi⟩
  | .fst i W t => by
    obtain ⟨ht, _⟩ := vcP_sound hk t
    refine ⟨fun f l S h1 h2 h3 => ?_, fun f l S _ _ i hi => by cases hi⟩
    cases f with
    | zero => cases h2
    | succ f =>
      simp only [OP.root] at h1
      unfold fstOk at h1
      split at h1
      · cases h1
      · rename_i oi hi
        simp only [vcP, hi, osO] at h3
        simp only [OP.chk, Bool.and_eq_true] at h2
        simp only [Bool.and_eq_true] at h1
        obtain ⟨⟨⟨c1, c2⟩, c3⟩, c4⟩ := h1
        have c3' := wait_spec c3
        refine anyP_fst hi c1 (hasN W) (fun m om hm hW => ?_) l (fun j oj hj h1 h2 => ?_) f l _ _ (fun m hm => (c3' m hm).1) (fun j hj => hj) ?_ h3.1 (opZ_of hi (fun S' hS => ht f _ S' h2.1 h2.2 hS) h3.2)
        · rcases (c3' m hW).2 with e | ⟨om', h1, h2⟩
          · exact .inl e
          · rw [hm] at h1
            cases h1
            exact .inr h2
        · exact freeAllF_spec ops 0 c4 j oj hj (by rw [Nat.zero_add]; exact h1) (by rw [Nat.zero_add]; exact h2)
        · rw [List.any_eq_true] at c2
          obtain ⟨x, hx, he⟩ := c2
          rw [Nat.beq_eq] at he
          exact he ▸ hx
  | .fre i W t => by
    obtain ⟨ht, _⟩ := vcP_sound hk t
    refine ⟨fun f l S h1 h2 h3 => ?_, fun f l S _ _ i hi => by cases hi⟩
    cases f with
    | zero => cases h2
    | succ f =>
      simp only [OP.root] at h1
      unfold freOk at h1
      split at h1
      · cases h1
      · rename_i oi hi
        simp only [vcP, hi, stZ] at h3
        simp only [OP.chk, Bool.and_eq_true] at h2
        simp only [Bool.and_eq_true] at h1
        obtain ⟨⟨⟨c1, c2⟩, c3⟩, c4⟩ := h1
        obtain ⟨S1, v, e1, e2, hy, hK⟩ := sstep_of (K := fun S' => vcP P N ops K t ⟨S'.t, S.h⟩) c1 h3
        have hn := ht f _ _ h2.1 h2.2 hK
        simp only at hn
        rw [look_put, e1] at hn
        have c3' := wait_spec c3
        refine anyP_firstS hi c1 (hasN W) (fun m om hm hW => ?_) l (fun j oj hj h1 h2 => ?_) f l _ _ (fun m hm => (c3' m hm).1) (fun j hj => hj) ?_ hy hn
        · rcases (c3' m hW).2 with e | ⟨om', h1, h2⟩
          · exact .inl e
          · rw [hm] at h1
            cases h1
            exact .inr h2
        · exact freeAllS_spec ops 0 c4 j oj hj (by rw [Nat.zero_add]; exact h1) (by rw [Nat.zero_add]; exact h2)
        · rw [List.any_eq_true] at c2
          obtain ⟨x, hx, he⟩ := c2
          rw [Nat.beq_eq] at he
          exact he ▸ hx
  | .alt i t r => by
    obtain ⟨ht, _⟩ := vcP_sound hk t
    obtain ⟨_, hrr⟩ := vcP_sound hk r
    have B : ∀ (f : Nat) (l : Array Bool) (S : St), (OP.alt i t r).chk ops (f + 1) l = true → vcP P N ops K (.alt i t r) S → ∀ j ∈ (OP.alt i t r).heads, j ∈ Region.ready .any ops.toArray l → opZ P N ops j (anyP P N ops K' f (l.setIfInBounds j true)) (look S.t) S.h := by
      intro f l S hc hv j hj hrd
      simp only [OP.chk, Bool.and_eq_true] at hc
      obtain ⟨⟨c1, c2⟩, c3⟩ := hc
      obtain ⟨v1, v2⟩ := hv
      rcases List.mem_cons.1 hj with rfl | hj
      · obtain ⟨_, o, ho, _⟩ := mem_ready.1 hrd
        rw [List.getElem?_toArray] at ho
        rw [ho] at v1
        exact opZ_of ho (fun S' hS => ht f _ S' c1 c2 hS) v1
      · exact hrr f l S c3 v2 j hj hrd
    refine ⟨fun f l S h1 h2 h3 => ?_, B⟩
    have h0 : Region.ready .any ops.toArray l = (OP.alt i t r).heads := by simpa [OP.root] using h1
    cases f with
    | zero => simp [OP.chk] at h2
    | succ f =>
      refine ⟨_, List.Perm.refl _, fun he => ?_, fun j hj => B f l S h2 h3 j (by rw [← h0]; exact hj) hj⟩
      rw [h0] at he
      cases he
end
theorem SW.regionP [Gl] {P : Program} {N : Nat} {id : Nat} {ops : List Oper} {Q : Exit → St → Prop} {S : St} (hm : P.follows .mixedOrders = true) (T : OP) (hB : (T.root ops (Array.replicate ops.length false) && T.chk ops ops.length (Array.replicate ops.length false)) = true)
    (h : vcP P N ops (Q .normal) T S) : SW P N (.region id ops.toArray true) Q S := SW.mk fun M w0 D a w hr => by
  rw [Bool.and_eq_true] at hB
  refine wp_region_any hm ?_
  have hr' : Rel M w0 D N S a (drw w) := ⟨hr.defers, hr.n, fun i => (hr.t i).mono (env_drw _ _), hr.own.drw, hr.frm.trans (frm_drw (fun _ => False) w) (fun _ _ x => x.elim), hr.new⟩
  have h1 := (vcP_sound (K' := fun T h => ∃ S', look S'.t = T ∧ S'.h = h ∧ Q .normal S') (fun S hS => ⟨S, rfl, rfl, hS⟩) T).1 ops.length _ S hB.1 hB.2 h
  have h2 := anyP_sound (Q := fun e a' w' => ∃ S', Q e S' ∧ Rel M w0 D N S' a' w') (K := fun T h => ∃ S', look S'.t = T ∧ S'.h = h ∧ Q .normal S') (fun S a w ⟨S', e1, e2, hx⟩ hr => ⟨S', hx, hr.look_eq e1 e2⟩) _ _ S a _ hr' h1
  simpa [drw] using h2
theorem vcP_done [Gl] {P : Program} {N : Nat} {ops : List Oper} {K : St → Prop} {S : St} : vcP P N ops K .done S = K S := propext ⟨fun h => h, fun h => h⟩
theorem vcP_nil [Gl] {P : Program} {N : Nat} {ops : List Oper} {K : St → Prop} {S : St} : vcP P N ops K .nil S = True := propext ⟨fun h => h, fun h => h⟩
theorem vcP_alt [Gl] {P : Program} {N : Nat} {ops : List Oper} {K : St → Prop} {i : Nat} {t r : OP} {S : St} : vcP P N ops K (.alt i t r) S = (stZ P N ops ops[i]? (vcP P N ops K t) S ∧ vcP P N ops K r S) := propext ⟨fun h => h, fun h => h⟩
theorem vcP_fre [Gl] {P : Program} {N : Nat} {ops : List Oper} {K : St → Prop} {i : Nat} {W : List Nat} {t : OP} {S : St} : vcP P N ops K (.fre i W t) S = stZ P N ops ops[i]? (backX (vcP P N ops K t) S.h) ⟨S.t, []⟩ := propext ⟨fun h => h, fun h => h⟩
theorem vcP_fst [Gl] {P : Program} {N : Nat} {ops : List Oper} {K : St → Prop} {i : Nat} {W : List Nat} {t : OP} {S : St} : vcP P N ops K (.fst i W t) S = (osO P ops[i]? S ∧ stZ P N ops ops[i]? (vcP P N ops K t) S) := propext ⟨fun h => h, fun h => h⟩
theorem osO_app [Gl] {P : Program} {d : Option Tmp} {s x : Tmp} {st xt ty : TypeId} {ps : String} {af : Array Edge} {g : Option (Nat × Bool)} {S : St} : osO P (some ⟨d, .call ⟨.builtin .append, ⟨[.tmp s, .tmp x]⟩, ⟨[st, xt]⟩⟩, ty, ps, af, g⟩) S = (notInt P xt = true ∧ sameB (look S.t s) (look S.t x) = false ∧ isOsS (look S.t s)) := propext ⟨fun ⟨h1, h2, b, off, n, sz, e⟩ => ⟨h1, h2, isOsS_iff.2 ⟨b, off, n, sz, e⟩⟩, fun ⟨h1, h2, h3⟩ => ⟨h1, h2, isOsS_iff.1 h3⟩⟩
theorem osO_alloc [Gl] {P : Program} {d : Option Tmp} {t ty : TypeId} {ps : String} {af : Array Edge} {g : Option (Nat × Bool)} {S : St} : osO P (some ⟨d, .alloc t, ty, ps, af, g⟩) S = True := propext ⟨fun _ => trivial, fun _ => trivial⟩
theorem osO_bs [Gl] {P : Program} {d : Option Tmp} {t n ty : TypeId} {xs : Array (Nat × Operand)} {ps : String} {af : Array Edge} {g : Option (Nat × Bool)} {S : St} : osO P (some ⟨d, .buildSlice t n xs, ty, ps, af, g⟩) S = True := propext ⟨fun _ => trivial, fun _ => trivial⟩
theorem isOsS_os {b off n sz : Nat} : isOsS (.os b off n sz) = True := propext ⟨fun _ => trivial, fun _ => trivial⟩
theorem sameB_fl {s : SV} {n sz : Nat} {f : Nat → List SV} : (sameB s (.fl n sz f) = false) = True := propext ⟨fun _ => trivial, fun _ => by cases s <;> rfl⟩
attribute [go_sem] vcP_done vcP_nil vcP_alt vcP_fre vcP_fst osO_app osO_alloc osO_bs isOsS_os sameB_fl
end Go.Ab
