/- Regions of the reading: in the order of the text; in every order. -/
import Derived.Test.YtockdinjmnkdoaaAx
set_option linter.unusedVariables false
set_option linter.unusedSimpArgs false
namespace Go.Ab
open Go.RowKit

noncomputable def skipI (N : Nat) (d : Option Tmp) (S : IS) : Option IS := bif dOk N d then some (S.put d (.sc undef)) else none

/-- One operation, if its guard lets it. -/
noncomputable def gI (P : Program) (call : CallI) (N : Nat) (ops : List Oper) (nm : Nat) (o : Oper) (S : IS) : Option IS :=
  match o.guard with
  | none => stepI P call N nm o S
  | some (j, want) => match gdst ops j with
    | none => none
    | some t => match S.get t with
      | .sc (.bool b) => bif b == want then stepI P call N nm o S else skipI N o.dst S
      | .sc (.tuple _) => skipI N o.dst S
      | _ => none

section
variable {P : Program} {N : Nat} {M : Nat → Prop} {w0 : World} {D : Nat → Prop} {w : World}

def YX (P : Program) (N : Nat) (ops : List Oper) (o : Oper) (T : Nat → SV) (h : Heap) (v : SV) : Prop :=
  dstOk N o.dst ∧ ((Wtd ops o.guard T true ∧ ∃ pre, valOp P o.op (evF T) h = .ok pre v ∧ pre) ∨ (Wtd ops o.guard T false ∧ v = .sc undef))

structure GOK (P : Program) (N : Nat) (ops : List Oper) (o : Oper) (nm sz : Nat) (I : Nat → Prop) (S S' : IS) : Prop where
  sup : SupS (Plus I nm sz) S'
  run : ∀ ρ (S0 : St), DS ρ S (look S0.t) S0.h → ∀ K : (Nat → SV) → Heap → Prop, (∀ ρ' T' h', Agr nm sz ρ ρ' → DS ρ' S' T' h' → K T' h') → gstep ops N o.guard o.dst (stepE P N o (TK K)) (TK K) S0
  st : stX o.op = true → ∃ v, S' = S.put o.dst v ∧ ∀ ρ T h, DS ρ S T h → YX P N ops o T h (v.den ρ)

theorem DS.same {ρ : Nat → Nat} {S : IS} {S0 : St} {t : Tmp} {v : SV} (Dd : DS ρ S (look S0.t) S0.h) (hv : look S0.t t = v) : DS ρ S (look (S0.put (some t) v).t) (S0.put (some t) v).h := by
  have : look (S0.put (some t) v).t = look S0.t := by
    rw [look_put]
    funext i
    rw [putF_if]
    split
    · rename_i e; cases e; exact hv.symm
    · rfl
  rw [this]
  exact Dd

theorem gI_ok {call : CallI} {sz nm : Nat} (hcall : CallOK P call sz) (hz : 0 < sz) {ops : List Oper} {o : Oper} {S S' : IS} (hs : gI P call N ops nm o S = some S') {I : Nat → Prop} (hI : Out I nm sz) (H : SupS I S) : GOK P N ops o nm sz I S S' := by
  unfold gI at hs
  split at hs
  · rename_i hg
    have h := stepI_ok hcall hz hs hI H
    refine ⟨h.sup, fun ρ S0 Dd K hK => ?_, fun st => ?_⟩
    · rw [hg]; exact h.run ρ S0 Dd K hK
    · obtain ⟨hd, v, e, hv⟩ := h.st st
      exact ⟨v, e, fun ρ T h Dd => ⟨hd, .inl ⟨by rw [hg]; rfl, hv ρ T h Dd⟩⟩⟩
  · rename_i j want hg
    split at hs
    · cases hs
    · rename_i t ht
      have skp : skipI N o.dst S = some S' → (∀ ρ T h, DS ρ S T h → Wtd ops o.guard T false) → (∀ ρ (S0 : St), DS ρ S (look S0.t) S0.h → ∀ A K : St → Prop, (∀ S1 : St, DS ρ S (look S1.t) S1.h → dstOk N o.dst → K (S1.put o.dst (.sc undef))) → gstep ops N o.guard o.dst A K S0) →
          GOK P N ops o nm sz I S S' := fun hs hw hgo => by
        unfold skipI at hs
        cases hd : dOk N o.dst with
        | false => rw [hd] at hs; cases hs
        | true =>
          rw [hd] at hs
          cases hs
          refine ⟨(H.put _ (.sc _ _)).mono plus_l, fun ρ S0 Dd K hK => hgo ρ S0 Dd _ _ fun S1 D1 _ => ?_, fun st => ⟨_, rfl, fun ρ T h Dd => ⟨dOk_ok hd, .inr ⟨hw ρ T h Dd, rfl⟩⟩⟩⟩
          exact TK_put (hK ρ _ _ (.refl _ _ _) (D1.put o.dst (.sc undef)))
      split at hs
      · rename_i b hb
        have hT : ∀ ρ T h, DS ρ S T h → T t = .sc (.bool b) := fun ρ T h Dd => by rw [Dd.t t, hb]; rfl
        have hW : ∀ ρ T h, DS ρ S T h → Wtd ops o.guard T (b == want) := fun ρ T h Dd => by rw [hg]; exact ⟨t, ht, .inl ⟨b, hT ρ T h Dd, rfl⟩⟩
        cases hbw : b == want with
        | true =>
          rw [hbw] at hs
          have h := stepI_ok hcall hz hs hI H
          refine ⟨h.sup, fun ρ S0 Dd K hK => ?_, fun st => ?_⟩
          · rw [hg]
            simp only [gstep, ht, guardK_some, hT ρ _ _ Dd]
            have D1 := Dd.same (hT ρ _ _ Dd)
            have := h.run ρ _ D1 K hK
            rw [beq_iff_eq] at hbw
            subst hbw
            unfold guardB
            cases b
            · simpa using this
            · simpa using this
          · obtain ⟨hd, v, e, hv⟩ := h.st st
            exact ⟨v, e, fun ρ T h Dd => ⟨hd, .inl ⟨by have := hW ρ T h Dd; rwa [hbw] at this, hv ρ T h Dd⟩⟩⟩
        | false =>
          rw [hbw] at hs
          refine skp hs (fun ρ T h Dd => by have := hW ρ T h Dd; rwa [hbw] at this) (fun ρ S0 Dd A K hK => ?_)
          rw [hg]
          have hd : dstOk N o.dst := by
            unfold skipI at hs
            cases hd : dOk N o.dst with
            | false => rw [hd] at hs; cases hs
            | true => exact dOk_ok hd
          simp only [gstep, ht, guardK_some, hT ρ _ _ Dd]
          have D1 := Dd.same (hT ρ _ _ Dd)
          have := hK _ D1 hd
          unfold guardB
          cases b
          · cases want
            · cases hbw
            · simpa using ⟨hd, this⟩
          · cases want
            · simpa using ⟨hd, this⟩
            · cases hbw
      · rename_i c hb
        have hT : ∀ ρ T h, DS ρ S T h → T t = .sc (.tuple c) := fun ρ T h Dd => by rw [Dd.t t, hb]; rfl
        refine skp hs (fun ρ T h Dd => by rw [hg]; exact ⟨t, ht, .inr ⟨c, hT ρ T h Dd, rfl⟩⟩) (fun ρ S0 Dd A K hK => ?_)
        rw [hg]
        have hd : dstOk N o.dst := by
          unfold skipI at hs
          cases hd : dOk N o.dst with
          | false => rw [hd] at hs; cases hs
          | true => exact dOk_ok hd
        simp only [gstep, ht, guardK_some, hT ρ _ _ Dd]
        exact ⟨hd, hK _ Dd hd⟩
      · cases hs

/-! ### in the order of the text -/
def vcE (P : Program) (N : Nat) (ops : List Oper) (l : List Oper) (K : St → Prop) (S : St) : Prop := match l with
  | [] => K S
  | o :: r => gstep ops N o.guard o.dst (stepE P N o (vcE P N ops r K)) (vcE P N ops r K) S

theorem vcE_mono {ops : List Oper} : ∀ (l : List Oper) (S0 : St) (K K' : St → Prop), (∀ S, K S → K' S) → vcE P N ops l K S0 → vcE P N ops l K' S0
  | [], _, _, _, hk, h => hk _ h
  | o :: r, S0, K, K', hk, h => gstep_mono (fun S1 h1 => stepE_mono (fun S2 h2 => vcE_mono r S2 K K' hk h2) h1) (fun S2 h2 => vcE_mono r S2 K K' hk h2) h

theorem vcE_sound {ops : List Oper} {Q : Exit → Act → World → Prop} {K : St → Prop} (hK : ∀ S a w, K S → Rel M w0 D N S a w → Q .normal a w) :
    ∀ (l : List Oper) (S : St) (a : Act) (w : World), vcE P N ops l K S → Rel M w0 D N S a w → wpList P ops.toArray Q l a w
  | [], S, a, w, h, hr => wpList_nil (hK S a w h hr)
  | o :: r, S, a, w, h, hr => by
    obtain ⟨S', hr', h'⟩ := gstep_sound (ops := ops) hr h
    refine wpList_step fun K' hK' => ?_
    rcases h' with ⟨hw, hA⟩ | ⟨hw, hd, hB⟩
    · rw [if_pos hw]
      exact Oper.wp_mono (fun a' w' ⟨S'', h1, h2⟩ => hK' a' w' (vcE_sound hK r S'' a' w' h1 h2)) (stepE_sound hr' hA)
    · rw [if_neg (by rw [hw]; simp)]
      exact hK' _ _ (vcE_sound hK r _ _ _ hB (hr'.put' hd (.sc _)))

theorem SW.regionE {id : Nat} {l : List Oper} {Q : Exit → St → Prop} {S : St} (h : vcE P N l l (Q .normal) S) : SW P N (.region id l.toArray false) Q S := fun M w0 D a w hr => by
  refine wp_region_list ?_
  simpa using vcE_sound (K := Q .normal) (Q := fun e a' w' => ∃ S', Q e S' ∧ Rel M w0 D N S' a' w') (fun S a w h hr => ⟨S, h, hr⟩) l S a w h hr

noncomputable def seqI (P : Program) (call : CallI) (N sz : Nat) (ops : List Oper) : List Oper → Nat → IS → Option IS
  | [], _, S => some S
  | o :: r, nm, S => match gI P call N ops nm o S with
    | some S1 => seqI P call N sz ops r (nm + sz) S1
    | none => none

def seqX (P : Program) (N : Nat) (ops : List Oper) (K : (Nat → SV) → Heap → Prop) : List Oper → (Nat → SV) → Heap → Prop
  | [], T, h => K T h
  | o :: r, T, h => bif stX o.op then ∃ v, YX P N ops o T h v ∧ seqX P N ops K r (putF T o.dst v) h
    else ∃ S : St, look S.t = T ∧ S.h = h ∧ gstep ops N o.guard o.dst (stepE P N o (TK (seqX P N ops K r))) (TK (seqX P N ops K r)) S

theorem DS.st {ρ : Nat → Nat} {S : IS} {T : Nat → SV} {h : Heap} (H : DS ρ S T h) : ∃ S0 : St, look S0.t = T ∧ S0.h = h := by
  obtain ⟨n, hn⟩ := TT.bound S.t
  refine ⟨⟨argT 0 ((List.range n).map fun i => (S.get i).den ρ), h⟩, ?_, rfl⟩
  funext i
  rw [look_argT _ 0 i (Nat.zero_le _), Nat.sub_zero, H.t i]
  rcases Nat.lt_or_ge i n with hi | hi
  · simp [List.getD_eq_getElem?_getD, hi]
  · have : S.get i = .any := hn i hi
    rw [this, List.getD_eq_getElem?_getD, List.getElem?_eq_none (by simpa using hi)]
    rfl

theorem out_succ {I : Nat → Prop} {nm sz n : Nat} (h : Out I nm ((n + 1) * sz)) : Out I nm sz := fun m h1 h2 => h m h1 (by rw [Nat.succ_mul]; omega)
theorem out_tail {I : Nat → Prop} {nm sz n : Nat} (h : Out I nm ((n + 1) * sz)) : Out (Plus I nm sz) (nm + sz) (n * sz) := fun m h1 h2 hm => by
  rcases hm with hm | hm
  · exact h m (by omega) (by rw [Nat.succ_mul]; omega) hm
  · omega
theorem plus_plus {I : Nat → Prop} {nm sz n : Nat} : ∀ m, Plus (Plus I nm sz) (nm + sz) (n * sz) m → Plus I nm ((n + 1) * sz) m := fun m h => by
  rcases h with (h | h) | h
  · exact .inl h
  · exact .inr ⟨h.1, by rw [Nat.succ_mul]; omega⟩
  · exact .inr ⟨by omega, by rw [Nat.succ_mul]; omega⟩
theorem agr_cons {nm sz n : Nat} {ρ ρ1 ρ2 : Nat → Nat} (h1 : Agr nm sz ρ ρ1) (h2 : Agr (nm + sz) (n * sz) ρ1 ρ2) : Agr nm ((n + 1) * sz) ρ ρ2 := fun m hm => by
  rw [Nat.succ_mul] at hm
  rw [h2 m (fun x => hm ⟨by omega, by omega⟩), h1 m (fun x => hm ⟨by omega, by omega⟩)]

theorem seqI_ok {call : CallI} {sz : Nat} (hcall : CallOK P call sz) (hz : 0 < sz) {ops : List Oper} : ∀ (l : List Oper) (nm : Nat) (S S' : IS) (I : Nat → Prop), seqI P call N sz ops l nm S = some S' → Out I nm (l.length * sz) → SupS I S →
    SupS (Plus I nm (l.length * sz)) S' ∧ ∀ ρ, (∀ (S0 : St), DS ρ S (look S0.t) S0.h → ∀ K : (Nat → SV) → Heap → Prop, (∀ ρ' T' h', Agr nm (l.length * sz) ρ ρ' → DS ρ' S' T' h' → K T' h') → vcE P N ops l (TK K) S0) ∧
      ∀ T h, DS ρ S T h → ∀ K : (Nat → SV) → Heap → Prop, (∀ ρ' T' h', Agr nm (l.length * sz) ρ ρ' → DS ρ' S' T' h' → K T' h') → seqX P N ops K l T h
  | [], nm, S, S', I, hs, hI, H => by
    cases hs
    exact ⟨H.mono plus_l, fun ρ => ⟨fun S0 Dd K hK => hK ρ _ _ (.refl _ _ _) Dd, fun T h Dd K hK => hK ρ _ _ (.refl _ _ _) Dd⟩⟩
  | o :: r, nm, S, S', I, hs, hI, H => by
    simp only [seqI] at hs
    split at hs
    · rename_i S1 h1
      have g := gI_ok hcall hz h1 (out_succ hI) H
      obtain ⟨s2, r2⟩ := seqI_ok hcall hz r (nm + sz) S1 S' _ hs (out_tail hI) g.sup
      refine ⟨s2.mono plus_plus, fun ρ => ⟨fun S0 Dd K hK => ?_, fun T h Dd K hK => ?_⟩⟩
      · have := g.run ρ S0 Dd (fun T h => ∃ ρ', Agr nm sz ρ ρ' ∧ DS ρ' S1 T h) (fun ρ' T' h' a1 d1 => ⟨ρ', a1, d1⟩)
        refine gstep_mono (fun S2 h2 => stepE_mono (fun S3 h3 => ?_) h2) (fun S3 h3 => ?_) this
        all_goals
          obtain ⟨ρ1, a1, d1⟩ := h3
          exact (r2 ρ1).1 S3 d1 K (fun ρ' T' h' a2 d2 => hK ρ' T' h' (agr_cons a1 a2) d2)
      · simp only [seqX]
        cases hst : stX o.op with
        | true =>
          obtain ⟨v, e, hv⟩ := g.st hst
          subst e
          exact ⟨v.den ρ, hv ρ T h Dd, (r2 ρ).2 _ _ (Dd.put o.dst v) K (fun ρ' T' h' a2 d2 => hK ρ' T' h' (agr_cons (.refl _ _ _) a2) d2)⟩
        | false =>
          obtain ⟨S0, e1, e2⟩ := Dd.st
          subst e1 e2
          exact ⟨S0, rfl, rfl, g.run ρ S0 Dd _ (fun ρ1 T' h' a1 d1 => (r2 ρ1).2 T' h' d1 K (fun ρ' T'' h'' a2 d2 => hK ρ' T'' h'' (agr_cons a1 a2) d2))⟩
    · cases hs

/-! ### in every order -/
def opX (P : Program) (N : Nat) (ops : List Oper) (i : Nat) (K : (Nat → SV) → Heap → Prop) (T : Nat → SV) (h : Heap) : Prop :=
  match ops[i]? with
  | none => K T h
  | some o => bif stX o.op then ∃ v, YX P N ops o T h v ∧ K (putF T o.dst v) h
    else ∃ S : St, look S.t = T ∧ S.h = h ∧ gstep ops N o.guard o.dst (stepE P N o (TK K)) (TK K) S

def anyX (P : Program) (N : Nat) (ops : List Oper) (K : (Nat → SV) → Heap → Prop) : Nat → Array Bool → (Nat → SV) → Heap → Prop
  | 0, listed, T, h => Region.ready .any ops.toArray listed = [] ∧ K T h
  | f + 1, listed, T, h => (Region.ready .any ops.toArray listed = [] → K T h) ∧
    ∀ i ∈ Region.ready .any ops.toArray listed, opX P N ops i (anyX P N ops K f (listed.setIfInBounds i true)) T h

theorem yx_sound {ops : List Oper} {o : Oper} {S : St} {a : Act} {v : SV} {K : Act → World → Prop} {Q : Exit → Act → World → Prop} (hr : Rel M w0 D N S a w) (hd : dstOk N o.dst) {pre : Prop} (hv : valOp P o.op (evF (look S.t)) S.h = .ok pre v) (hp : pre)
    (hK : ∀ a' w', Rel M w0 D N (S.put o.dst v) a' w' → K a' w') : o.wp P a w K Q :=
  yld_sound hr hd (.inl ⟨pre, hv, hp⟩) hK

theorem anyX_sound {ops : List Oper} {Q : Exit → Act → World → Prop} {K : (Nat → SV) → Heap → Prop} (hK : ∀ S a w, K (look S.t) S.h → Rel M w0 D N S a w → Q .normal a w) :
    ∀ (f : Nat) (listed : Array Bool) (S : St) (a : Act) (w : World), Rel M w0 D N S a w → anyX P N ops K f listed (look S.t) S.h → wpAny P .any ops.toArray Q f listed a w
  | 0, listed, S, a, w, hr, h => ⟨h.1, hK S a w h.2 hr⟩
  | f + 1, listed, S, a, w, hr, h => by
    refine ⟨fun h0 => hK S a w (h.1 h0) hr, fun i hi => ?_⟩
    have hop := h.2 i hi
    unfold opX at hop
    unfold wpOp
    simp only [List.getElem?_toArray]
    split
    · rename_i ho
      simp only [ho] at hop
      exact anyX_sound hK f _ S a w hr hop
    · rename_i o ho
      simp only [ho] at hop
      by_cases hs : stX o.op = true
      · rw [hs] at hop
        simp only [cond_true] at hop
        obtain ⟨v, ⟨hd, hy⟩, hn⟩ := hop
        have next : ∀ a' w', Rel M w0 D N (S.put o.dst v) a' w' → wpAny P .any ops.toArray Q f (listed.setIfInBounds i true) a' w' := fun a' w' hr' =>
          anyX_sound hK f _ (S.put o.dst v) a' w' hr' (by rw [look_put, h_put]; exact hn)
        rcases hy with ⟨hw, pre, hy, hp⟩ | ⟨hw, rfl⟩
        · rw [if_pos (yielded_F hr hw)]
          exact .inl (yx_sound (ops := ops) hr hd hy hp next)
        · rw [if_neg (by rw [yielded_F hr hw]; simp)]
          exact next _ _ (hr.put' hd (.sc _))
      · simp only [Bool.not_eq_true] at hs
        rw [hs] at hop
        simp only [cond_false] at hop
        obtain ⟨S1, e1, e2, hg⟩ := hop
        have hr1 := hr.look_eq e1 e2
        obtain ⟨S', hr', h'⟩ := gstep_sound (ops := ops) hr1 hg
        rcases h' with ⟨hw, hA⟩ | ⟨hw, hd, hB⟩
        · rw [if_pos hw]
          exact .inl (Oper.wp_mono (fun a' w' ⟨S'', h1, h2⟩ => anyX_sound hK f _ S'' a' w' h2 h1) (stepE_sound hr' hA))
        · rw [if_neg (by rw [hw]; simp)]
          exact anyX_sound hK f _ _ _ _ (hr'.put' hd (.sc _)) hB

theorem stX_stable {op : Op} (h : stX op = true) : stableOp op = true := by
  unfold stX at h
  rw [Bool.and_eq_true] at h
  exact h.1

theorem YX_putF {ops : List Oper} {o : Oper} (hs : stX o.op = true) {T : Nat → SV} {d : Option Tmp} {v u : SV} {h : Heap} (ha : Away ops o d) : YX P N ops o (putF T d v) h u ↔ YX P N ops o T h u := by
  unfold YX
  rw [Wtd_putF ha, Wtd_putF ha, valOp_congr (stX_stable hs) h (evF_putF ha)]

theorem opX_mono {ops : List Oper} {i : Nat} {o : Oper} {h : Heap} (ho : ops[i]? = some o) (hs : stX o.op = true) {K K' : (Nat → SV) → Heap → Prop} {T : Nat → SV} (hk : ∀ T, K T h → K' T h) (hh : opX P N ops i K T h) : opX P N ops i K' T h := by
  unfold opX at hh ⊢
  simp only [ho, hs, cond_true] at hh ⊢
  obtain ⟨v, hy, hn⟩ := hh
  exact ⟨v, hy, hk _ hn⟩

theorem opX_put {ops : List Oper} {j : Nat} {oi oj : Oper} {v : SV} {h : Heap} (hj : ops[j]? = some oj) (hap : oi.apart ops.toArray oj = true) (hsi : stX oi.op = true) (hsj : stX oj.op = true)
    {K : (Nat → SV) → Heap → Prop} {T : Nat → SV} (hy : YX P N ops oi T h v) (hh : opX P N ops j K (putF T oi.dst v) h) :
    opX P N ops j (fun T' h' => h' = h ∧ YX P N ops oi T' h v ∧ K (putF T' oi.dst v) h) T h := by
  obtain ⟨h1, h2, h3⟩ := Oper.apart_spec hap
  unfold opX at hh ⊢
  simp only [hj, hsj, cond_true] at hh ⊢
  obtain ⟨u, hu, hn⟩ := hh
  exact ⟨u, (YX_putF hsj (fun t ht => h1 t ht)).1 hu, trivial, (YX_putF hsi (fun t ht => h3 t ht)).2 hy, by rw [← putF_comm T v u h2]; exact hn⟩

theorem anyX_first {ops : List Oper} {K : (Nat → SV) → Heap → Prop} {i : Nat} {oi : Oper} {v : SV} {h : Heap} (hi : ops[i]? = some oi) (hsi : stX oi.op = true) :
    ∀ (fuel : Nat) (listed : Array Bool) (T : Nat → SV),
      (∀ j oj, ops[j]? = some oj → j ≠ i → listed.getD j true = false → (∀ e ∈ oj.after, Region.binds .any e = true → e.on ≠ i) → oi.apart ops.toArray oj = true ∧ stX oj.op = true) →
      i ∈ Region.ready .any ops.toArray listed → YX P N ops oi T h v →
      anyX P N ops K fuel (listed.setIfInBounds i true) (putF T oi.dst v) h → anyX P N ops K (fuel + 1) listed T h := by
  have use : ∀ {K' : (Nat → SV) → Heap → Prop} {T : Nat → SV}, YX P N ops oi T h v → K' (putF T oi.dst v) h → opX P N ops i K' T h := fun hy hk => by
    unfold opX; simp only [hi, hsi, cond_true]; exact ⟨v, hy, hk⟩
  intro fuel
  induction fuel with
  | zero =>
    intro listed T _ hr hy H
    refine ⟨fun h => (by rw [h] at hr; cases hr), fun j hj => ?_⟩
    by_cases hji : j = i
    · subst hji; exact use hy H
    · have := ready_mono hj hji
      rw [H.1] at this
      cases this
  | succ fuel ih =>
    intro listed T hfree hr hy H
    refine ⟨fun h => (by rw [h] at hr; cases hr), fun j hj => ?_⟩
    by_cases hji : j = i
    · subst hji; exact use hy H
    · have h1 := H.2 j (ready_mono hj hji)
      obtain ⟨hjun, oj, hoj, hall⟩ := mem_ready.1 hj
      rw [List.getElem?_toArray] at hoj
      have hnot : ∀ e ∈ oj.after, Region.binds .any e = true → e.on ≠ i := fun e he hb heq => by
        have h1 := hall e he hb
        have h0 := (mem_ready.1 hr).1
        rw [heq] at h1
        rcases Nat.lt_or_ge i listed.size with h' | h'
        · simp [h'] at h0 h1; rw [h0] at h1; cases h1
        · simp [Array.getElem?_eq_none h'] at h1
      obtain ⟨hap, hsj⟩ := hfree j oj hoj hji hjun hnot
      have h2 := opX_put hoj hap hsi hsj hy h1
      have hfree' : ∀ k ok, ops[k]? = some ok → k ≠ i → (listed.setIfInBounds j true).getD k true = false →
          (∀ e ∈ ok.after, Region.binds .any e = true → e.on ≠ i) → oi.apart ops.toArray ok = true ∧ stX ok.op = true := fun k ok hk hki hun hno => by
        refine hfree k ok hk hki ?_ hno
        by_cases hjk : j = k
        · subst hjk; exact hjun
        · rw [getD_set_ne true hjk] at hun; exact hun
      refine opX_mono hoj hsj (fun T' ⟨_, h3, h4⟩ => ih (listed.setIfInBounds j true) T' hfree' (ready_mono hr (Ne.symm hji)) h3 ?_) h2
      rw [Array.setIfInBounds_comm _ _ hji]
      exact h4

def freesX (ops : List Oper) (listed : Array Bool) (k : Nat) (ok : Oper) : Bool :=
  (List.range ops.length).all fun j => Nat.beq j k || listed.getD j true || (match ops[j]? with
    | some oj => (oj.after.any fun e => Region.binds .any e && Nat.beq e.on k) || (ok.apart ops.toArray oj && stX oj.op)
    | none => true)

theorem freesX_spec {ops : List Oper} {listed : Array Bool} {k : Nat} {ok : Oper} (hf : freesX ops listed k ok = true) :
    ∀ j oj, ops[j]? = some oj → j ≠ k → listed.getD j true = false → (∀ e ∈ oj.after, Region.binds .any e = true → e.on ≠ k) → ok.apart ops.toArray oj = true ∧ stX oj.op = true := by
  intro j oj hj hjk hun hno
  unfold freesX at hf
  have hlt : j < ops.length := (List.getElem?_eq_some_iff.1 hj).1
  have h1 := List.all_eq_true.1 hf j (List.mem_range.2 hlt)
  have hb : Nat.beq j k = false := by rw [← Bool.not_eq_true, Nat.beq_eq]; exact hjk
  simp only [hb, hun, hj, Bool.false_or] at h1
  rw [Bool.or_eq_true] at h1
  rcases h1 with h1 | h1
  · rw [Array.any_eq_true'] at h1
    obtain ⟨e, he, hbe⟩ := h1
    rw [Bool.and_eq_true, Nat.beq_eq] at hbe
    exact absurd hbe.2 (hno e he hbe.1)
  · rwa [Bool.and_eq_true] at h1

def lexAtX (ops : List Oper) : Nat → Nat → Array Bool → Bool
  | 0, _, listed => (Region.ready .any ops.toArray listed).isEmpty
  | f + 1, k, listed => (match ops[k]? with
      | some ok => bif stX ok.op then (Region.ready .any ops.toArray listed).contains k && freesX ops listed k ok else (Region.ready .any ops.toArray listed) == [k]
      | none => false) && lexAtX ops f (k + 1) (listed.setIfInBounds k true)

/-- May the region be read in the order of its text? -/
def lexOkX (ops : List Oper) : Bool := lexAtX ops ops.length 0 (Array.replicate ops.length false)

theorem anyX_lex {ops : List Oper} {K : (Nat → SV) → Heap → Prop} : ∀ (l : List Oper) (k : Nat) (listed : Array Bool) (T : Nat → SV) (h : Heap), (∀ j, l[j]? = ops[k + j]?) →
    lexAtX ops l.length k listed = true → seqX P N ops K l T h → anyX P N ops K l.length listed T h
  | [], _, _, T, h, _, hB, hh => ⟨by simpa [lexAtX] using hB, hh⟩
  | o :: l, k, listed, T, h, hl, hB, hh => by
    have h0 : ops[k]? = some o := by simpa using (hl 0).symm
    simp only [List.length_cons, lexAtX, h0, Bool.and_eq_true] at hB
    obtain ⟨hr, hB'⟩ := hB
    have hl' : ∀ j, l[j]? = ops[k + 1 + j]? := fun j => by have := hl (j + 1); simpa [Nat.add_assoc, Nat.add_comm 1 j] using this
    simp only [seqX] at hh
    by_cases hs : stX o.op = true
    · rw [hs] at hr hh
      simp only [cond_true, Bool.and_eq_true] at hr hh
      obtain ⟨v, hy, hn⟩ := hh
      exact anyX_first h0 hs l.length listed _ (freesX_spec hr.2) (by simpa using hr.1) hy (anyX_lex l (k + 1) _ _ _ hl' hB' hn)
    · simp only [Bool.not_eq_true] at hs
      rw [hs] at hr hh
      simp only [cond_false, beq_iff_eq] at hr hh
      obtain ⟨S, e1, e2, hg⟩ := hh
      refine ⟨fun h => (by rw [hr] at h; cases h), fun i hi => ?_⟩
      rw [hr] at hi
      obtain rfl : i = k := by simpa using hi
      unfold opX
      simp only [h0, hs, cond_false]
      exact ⟨S, e1, e2, gstep_mono (fun S' hS => stepE_mono (fun S'' hS => anyX_lex l (i + 1) _ _ _ hl' hB' hS) hS) (fun S' hS => anyX_lex l (i + 1) _ _ _ hl' hB' hS) hg⟩

/-- **A region whose order is drawn.** -/
theorem regionX_sound {ops : List Oper} {id : Nat} {Q : Exit → St → Prop} {S : St} (hm : P.follows .mixedOrders = true)
    (h : anyX P N ops (fun T h => ∀ S' : St, look S'.t = T → S'.h = h → Q .normal S') ops.length (Array.replicate ops.length false) (look S.t) S.h) : SW P N (.region id ops.toArray true) Q S := fun M w0 D a w hr => by
  refine wp_region_any hm ?_
  have hr' : Rel M w0 D N S a (drw w) := ⟨hr.defers, hr.n, fun i => (hr.t i).mono (env_drw _ _), hr.own.drw, hr.frm.trans (frm_drw (fun _ => False) w) (fun _ _ x => x.elim), hr.new⟩
  have := anyX_sound (Q := fun e a' w' => ∃ S', Q e S' ∧ Rel M w0 D N S' a' w') (fun S a w hx hr => ⟨S, hx S rfl rfl, hr⟩) _ _ S a _ hr' h
  simpa [drw] using this

/-! ### operations that read no memory come first -/
def pureX (op : Op) : Bool := match op with
  | .load _ _ => false
  | op => stX op

theorem pureX_st {op : Op} (h : pureX op = true) : stX op = true := by
  unfold pureX at h
  split at h
  · cases h
  · exact h

theorem valOp_pure {op : Op} (h : pureX op = true) {ρ : Operand → SV} (h1 h2 : Heap) : valOp P op ρ h1 = valOp P op ρ h2 := by
  cases op with
  | load t x => cases h
  | call c => unfold valOp; split <;> first | rfl | simp_all
  | _ => rfl

theorem valOp_congrA {op : Op} {ρ ρ' : Operand → SV} (h : Heap) (he : ∀ x ∈ op.operands, ρ x = ρ' x) : valOp P op ρ h = valOp P op ρ' h := by
  cases hs : stableOp op with
  | true => exact valOp_congr hs h he
  | false =>
    cases hn : newOp op with
    | true =>
      refine valOp_congrN ?_ h he
      unfold detOp
      have : callOp op = false := by unfold newOp at hn; split at hn <;> first | rfl | cases hn
      rw [this, hn]; simp
    | false =>
      cases op with
      | call c =>
        obtain ⟨callee, args, ts⟩ := c
        cases callee with
        | builtin b =>
          unfold valOp
          split <;> first | rfl | skip
          all_goals simp_all [Go.Call.operands, Op.operands]
        | _ => rfl
      | _ => first | rfl | (cases hs; done) | (cases hn; done)

theorem stepK_map {o : Oper} {S S2 : St} {K1 K2 : St → Prop} (he : ∀ x ∈ o.op.operands, S.ev x = S2.ev x) (hh : S.h = S2.h)
    (hK : ∀ h' x, K1 ((⟨S.t, h'⟩ : St).put o.dst x) → K2 ((⟨S2.t, h'⟩ : St).put o.dst x)) (h : stepK P N o K1 S) : stepK P N o K2 S2 := by
  obtain ⟨t, hp⟩ := S
  obtain ⟨t2, hp2⟩ := S2
  simp only at hh hK
  subst hh
  obtain ⟨hd, h⟩ := h
  refine ⟨hd, ?_⟩
  have hv : valOp P o.op (St.ev ⟨t, hp⟩) hp = valOp P o.op (St.ev ⟨t2, hp⟩) hp := valOp_congrA hp he
  have h' : resK (valOp P o.op (St.ev ⟨t, hp⟩) hp) o.dst (effK P o.op o.dst K1 ⟨t, hp⟩) K1 ⟨t, hp⟩ := h
  show resK (valOp P o.op (St.ev ⟨t2, hp⟩) hp) o.dst (effK P o.op o.dst K2 ⟨t2, hp⟩) K2 ⟨t2, hp⟩
  rw [hv] at h'
  clear hv h
  generalize valOp P o.op (St.ev ⟨t2, hp⟩) hp = R at h' ⊢
  rcases R with _ | ⟨pre, v⟩ | ⟨pre, k, mk⟩
  rotate_left
  · exact ⟨h'.1, hK _ _ h'.2⟩
  · exact ⟨h'.1, fun b hb => hK _ _ (h'.2 b hb)⟩
  · have h : effK P o.op o.dst K1 ⟨t, hp⟩ := h'
    show effK P o.op o.dst K2 ⟨t2, hp⟩
    clear h'
    unfold effK at *
    split at h
    · rename_i ty a v hop
      rw [hop] at he
      have e1 := he a (by simp [Op.operands])
      have e2 := he v (by simp [Op.operands])
      rw [e1, e2] at h
      unfold storeK at *
      split at h
      · simp only at h ⊢
        split at h
        · exact ⟨h.1, h.2.1, hK _ _ h.2.2⟩
        · exact h
      · exact h
    · rename_i f args ts hop
      rw [hop] at he
      have e1 := he f (by simp [Op.operands, Go.Call.operands])
      have e2 : args.toList.map (St.ev ⟨t, hp⟩) = args.toList.map (St.ev ⟨t2, hp⟩) := map_op_congr args (fun x hx => he x (by simp [Op.operands, Go.Call.operands, hx]))
      rw [e1, e2] at h
      unfold callK at *
      split at h
      · exact Call.mono h (fun _ _ x => hK _ _ x)
      · exact h
    · rename_i s x st xt hop
      rw [hop] at he
      have e1 := he s (by simp [Op.operands, Go.Call.operands])
      have e2 := he x (by simp [Op.operands, Go.Call.operands])
      rw [e1, e2] at h
      cases hN : notInt P xt with
      | true =>
        rw [hN] at h
        simp only [cond_true] at h ⊢
        unfold appK at *
        simp only at h ⊢
        split at h
        · obtain ⟨h1, h2, h3, h4, h5, h6⟩ := h
          refine ⟨h1, h2, h3, h4, h5, ?_⟩
          split at h6
          · exact ⟨h6.1, h6.2.1, fun x => hK _ _ (h6.2.2.1 x), fun x b hb => hK _ _ (h6.2.2.2 x b hb)⟩
          · unfold appOsK at *
            simp only at h6 ⊢
            split at h6
            · obtain ⟨g1, g2, g3, g4, g5, g6⟩ := h6
              exact ⟨g1, g2, g3, g4, g5, fun b hb => hK _ _ (g6 b hb)⟩
            · exact h6
          · exact h6
        · exact h
      | false =>
        rw [hN] at h
        simp only [cond_false] at h ⊢
        cases hI : (ik P xt).isSome with
        | true =>
          rw [hI] at h
          simp only [cond_true] at h ⊢
          unfold appZK at *
          split at h
          · obtain ⟨h1, h2, h3, h4, h5, h6⟩ := h
            exact ⟨h1, h2, h3, h4, h5, fun b hb => hK _ _ (h6 b hb)⟩
          · exact h
        | false =>
          rw [hI] at h
          exact h.elim
    · exact h

/-- What was put far from an operation may be put behind it. -/
theorem gstep_frame {ops : List Oper} {o : Oper} {d : Option Tmp} {v : SV} {S S2 : St} {K0 : (Nat → SV) → Heap → Prop} {T : Nat → SV} (h1 : look S.t = putF T d v) (h2 : look S2.t = T) (hh : S.h = S2.h) (ha : Away ops o d) (hne : ∀ t, d = some t → o.dst ≠ some t)
    {K' : (Nat → SV) → Heap → Prop} (hK' : ∀ h' x, K0 (putF (putF T o.dst x) d v) h' → K' (putF T o.dst x) h') (h : gstep ops N o.guard o.dst (stepE P N o (TK K0)) (TK K0) S) : gstep ops N o.guard o.dst (stepE P N o (TK K')) (TK K') S2 := by
  have main : ∀ S1 S3 : St, look S1.t = putF T d v → look S3.t = T → S1.h = S3.h → stepE P N o (TK K0) S1 → stepE P N o (TK K') S3 := fun S1 S3 e1 e2 e3 hs => by
    obtain ⟨hc, hle, hs⟩ := hs
    refine ⟨hc, by rw [← e3]; exact hle, ?_⟩
    refine stepK_map (S := ⟨S1.t, hc⟩) (S2 := ⟨S3.t, hc⟩) (fun x hx => ?_) rfl (fun h' x hk => ?_) hs
    · rw [ev_look, ev_look, e1, e2]
      exact evF_putF (ops := ops) ha x hx
    · unfold TK at *
      rw [look_put, h_put] at *
      simp only at hk ⊢
      rw [e1, putF_comm T v x hne] at hk
      rw [e2]
      exact hK' _ _ hk
  have skp : ∀ S1 S3 : St, look S1.t = putF T d v → look S3.t = T → S1.h = S3.h → TK K0 (S1.put o.dst (.sc undef)) → TK K' (S3.put o.dst (.sc undef)) := fun S1 S3 e1 e2 e3 hk => by
    unfold TK at *
    rw [look_put, h_put] at *
    rw [e1, putF_comm T v _ hne, e3] at hk
    rw [e2]
    exact hK' _ _ hk
  cases hg : o.guard with
  | none => rw [hg] at h; exact main S S2 h1 h2 hh h
  | some jw =>
    obtain ⟨j, want⟩ := jw
    rw [hg] at h
    simp only [gstep] at h ⊢
    cases ht : gdst ops j with
    | none => rw [ht] at h; exact h.elim
    | some t =>
      rw [ht] at h
      simp only [guardK] at h ⊢
      have hlt : look S.t t = look S2.t t := by
        rw [h1, h2]
        refine putF_other (fun e => ha t e ?_)
        refine List.mem_append_right _ ?_
        rw [hg]
        unfold gdst at ht
        split at ht
        · rename_i o' ho'
          simp only [List.getElem?_toArray, ho', Option.bind_some, ht]
          simp
        · cases ht
      rw [← hlt]
      have same1 : ∀ b, look S.t t = b → look (S.put (some t) b).t = putF T d v := fun b hb => by
        rw [look_put, ← h1]; funext i; rw [putF_if]; split
        · rename_i e; cases e; exact hb.symm
        · rfl
      have same2 : ∀ b, look S.t t = b → look (S2.put (some t) b).t = T := fun b hb => by
        rw [look_put, ← h2]; funext i; rw [putF_if]; split
        · rename_i e; cases e; rw [← hlt]; exact hb.symm
        · rfl
      generalize hx : look S.t t = x at *
      unfold guardB at *
      split at h
      · rename_i b
        cases b
        · simp only [Bool.false_eq_true, if_false] at h ⊢
          cases want
          · exact main _ _ (same1 _ rfl) (same2 _ rfl) (by rw [h_put, h_put]; exact hh) h
          · exact ⟨h.1, skp _ _ (same1 _ rfl) (same2 _ rfl) (by rw [h_put, h_put]; exact hh) h.2⟩
        · simp only [if_true] at h ⊢
          cases want
          · exact ⟨h.1, skp _ _ (same1 _ rfl) (same2 _ rfl) (by rw [h_put, h_put]; exact hh) h.2⟩
          · exact main _ _ (same1 _ rfl) (same2 _ rfl) (by rw [h_put, h_put]; exact hh) h
      · exact ⟨h.1, skp _ _ h1 h2 hh h.2⟩
      · exact h.elim

theorem YX_heap {ops : List Oper} {o : Oper} (hp : pureX o.op = true) {T : Nat → SV} {h h' : Heap} {v : SV} (hy : YX P N ops o T h v) : YX P N ops o T h' v := by
  obtain ⟨hd, hy⟩ := hy
  refine ⟨hd, hy.imp (fun ⟨hw, pre, hv, hpre⟩ => ⟨hw, pre, by rw [valOp_pure hp h' h]; exact hv, hpre⟩) id⟩

theorem opX_mono2 {ops : List Oper} {j : Nat} {K K' : (Nat → SV) → Heap → Prop} {T : Nat → SV} {h : Heap} (hk : ∀ T h, K T h → K' T h) (hh : opX P N ops j K T h) : opX P N ops j K' T h := by
  unfold opX at hh ⊢
  split at hh
  · exact hk _ _ hh
  · rename_i o ho
    cases hs : stX o.op with
    | true =>
      rw [hs] at hh
      simp only [cond_true] at hh ⊢
      obtain ⟨v, hy, hn⟩ := hh
      exact ⟨v, hy, hk _ _ hn⟩
    | false =>
      rw [hs] at hh
      simp only [cond_false] at hh ⊢
      obtain ⟨S, e1, e2, hg⟩ := hh
      exact ⟨S, e1, e2, gstep_mono (fun S' hS => stepE_mono (fun S'' hS => hk _ _ hS) hS) (fun S' hS => hk _ _ hS) hg⟩

/-- Every state of temporaries that comes of a finite one by putting can be put down. -/
def Fin (T : Nat → SV) : Prop := ∃ t : List (Nat × SV), look t = T

theorem opX_putP {ops : List Oper} {j : Nat} {oi oj : Oper} {v : SV} {T : Nat → SV} {h : Heap} (hT : Fin T) (hj : ops[j]? = some oj) (hap : oi.apart ops.toArray oj = true) (hpi : pureX oi.op = true)
    {K : (Nat → SV) → Heap → Prop} (hy : YX P N ops oi T h v) (hh : opX P N ops j K (putF T oi.dst v) h) :
    opX P N ops j (fun T' h' => Fin T' ∧ YX P N ops oi T' h' v ∧ K (putF T' oi.dst v) h') T h := by
  obtain ⟨h1, h2, h3⟩ := Oper.apart_spec hap
  obtain ⟨t, rfl⟩ := hT
  have yy : ∀ x h', YX P N ops oi (putF (look t) oj.dst x) h' v := fun x h' => YX_heap hpi ((YX_putF (pureX_st hpi) (fun t ht => h3 t ht)).2 hy)
  have fin : ∀ x, Fin (putF (look t) oj.dst x) := fun x => ⟨((⟨t, []⟩ : St).put oj.dst x).t, look_put _ _ _⟩
  unfold opX at hh ⊢
  simp only [hj] at hh ⊢
  cases hs : stX oj.op with
  | true =>
    rw [hs] at hh
    simp only [cond_true] at hh ⊢
    obtain ⟨u, hu, hn⟩ := hh
    exact ⟨u, (YX_putF hs (fun t ht => h1 t ht)).1 hu, fin u, yy u h, by rw [← putF_comm (look t) v u h2]; exact hn⟩
  | false =>
    rw [hs] at hh
    simp only [cond_false] at hh ⊢
    obtain ⟨S, e1, e2, hg⟩ := hh
    refine ⟨⟨t, h⟩, rfl, rfl, gstep_frame e1 rfl e2 (fun t ht => h1 t ht) h2 (fun h' x hk => ⟨fin x, yy x h', hk⟩) hg⟩

theorem anyX_pure {ops : List Oper} {K : (Nat → SV) → Heap → Prop} {i : Nat} {oi : Oper} {v : SV} (hi : ops[i]? = some oi) (hpi : pureX oi.op = true) :
    ∀ (fuel : Nat) (listed : Array Bool) (T : Nat → SV) (h : Heap), Fin T →
      (∀ j oj, ops[j]? = some oj → j ≠ i → listed.getD j true = false → (∀ e ∈ oj.after, Region.binds .any e = true → e.on ≠ i) → (∀ e ∈ oi.after, Region.binds .any e = true → e.on ≠ j) → oi.apart ops.toArray oj = true) →
      i ∈ Region.ready .any ops.toArray listed → YX P N ops oi T h v →
      anyX P N ops K fuel (listed.setIfInBounds i true) (putF T oi.dst v) h → anyX P N ops K (fuel + 1) listed T h := by
  have hsi := pureX_st hpi
  have use : ∀ {K' : (Nat → SV) → Heap → Prop} {T : Nat → SV} {h : Heap}, YX P N ops oi T h v → K' (putF T oi.dst v) h → opX P N ops i K' T h := fun hy hk => by
    unfold opX; simp only [hi, hsi, cond_true]; exact ⟨v, hy, hk⟩
  intro fuel
  induction fuel with
  | zero =>
    intro listed T h hT _ hr hy H
    refine ⟨fun h => (by rw [h] at hr; cases hr), fun j hj => ?_⟩
    by_cases hji : j = i
    · subst hji; exact use hy H
    · have := ready_mono hj hji
      rw [H.1] at this
      cases this
  | succ fuel ih =>
    intro listed T h hT hfree hr hy H
    refine ⟨fun h => (by rw [h] at hr; cases hr), fun j hj => ?_⟩
    by_cases hji : j = i
    · subst hji; exact use hy H
    · have h1 := H.2 j (ready_mono hj hji)
      obtain ⟨hjun, oj, hoj, hall⟩ := mem_ready.1 hj
      rw [List.getElem?_toArray] at hoj
      have nol : ∀ (k l : Nat) (ok : Oper), ops[k]? = some ok → (∀ e ∈ ok.after, Region.binds .any e = true → listed.getD e.on false = true) → listed.getD l true = false → ∀ e ∈ ok.after, Region.binds .any e = true → e.on ≠ l := fun k l ok _ hal hun e he hb heq => by
        have h1 := hal e he hb
        rw [heq] at h1
        rcases Nat.lt_or_ge l listed.size with h' | h'
        · simp [h'] at hun h1; rw [hun] at h1; cases h1
        · simp [Array.getElem?_eq_none h'] at h1
      obtain ⟨hiun, oi', hoi, hali⟩ := mem_ready.1 hr
      rw [List.getElem?_toArray, hi] at hoi
      cases hoi
      have hnot := nol j i oj hoj hall hiun
      have hap := hfree j oj hoj hji hjun hnot (nol i j oi hi hali hjun)
      have h2 := opX_putP hT hoj hap hpi hy h1
      have hfree' : ∀ k ok, ops[k]? = some ok → k ≠ i → (listed.setIfInBounds j true).getD k true = false →
          (∀ e ∈ ok.after, Region.binds .any e = true → e.on ≠ i) → (∀ e ∈ oi.after, Region.binds .any e = true → e.on ≠ k) → oi.apart ops.toArray ok = true := fun k ok hk hki hun hno hno2 => by
        refine hfree k ok hk hki ?_ hno hno2
        by_cases hjk : j = k
        · subst hjk; exact hjun
        · rw [getD_set_ne true hjk] at hun; exact hun
      refine opX_mono2 (fun T' h' ⟨hf, h3, h4⟩ => ih (listed.setIfInBounds j true) T' h' hf hfree' (ready_mono hr (Ne.symm hji)) h3 ?_) h2
      rw [Array.setIfInBounds_comm _ _ hji]
      exact h4

/-- Operations without an edge between them do not meet. -/
def cleanX (ops : List Oper) : Bool := (List.range ops.length).all fun i => (List.range ops.length).all fun j => Nat.beq j i || (match ops[i]?, ops[j]? with
  | some oi, some oj => (oj.after.any fun e => Region.binds .any e && Nat.beq e.on i) || (oi.after.any fun e => Region.binds .any e && Nat.beq e.on j) || oi.apart ops.toArray oj
  | _, _ => true)

theorem cleanX_spec {ops : List Oper} (hc : cleanX ops = true) {i j : Nat} {oi oj : Oper} (hi : ops[i]? = some oi) (hj : ops[j]? = some oj) (hne : j ≠ i) (h1 : ∀ e ∈ oj.after, Region.binds .any e = true → e.on ≠ i)
    (h2 : ∀ e ∈ oi.after, Region.binds .any e = true → e.on ≠ j) : oi.apart ops.toArray oj = true := by
  unfold cleanX at hc
  have a := List.all_eq_true.1 hc i (List.mem_range.2 (List.getElem?_eq_some_iff.1 hi).1)
  have b := List.all_eq_true.1 a j (List.mem_range.2 (List.getElem?_eq_some_iff.1 hj).1)
  have hb : Nat.beq j i = false := by rw [← Bool.not_eq_true, Nat.beq_eq]; exact hne
  simp only [hb, hi, hj, Bool.false_or, Bool.or_eq_true] at b
  rcases b with (b | b) | b
  · rw [Array.any_eq_true'] at b
    obtain ⟨e, he, hbe⟩ := b
    rw [Bool.and_eq_true, Nat.beq_eq] at hbe
    exact absurd hbe.2 (h1 e he hbe.1)
  · rw [Array.any_eq_true'] at b
    obtain ⟨e, he, hbe⟩ := b
    rw [Bool.and_eq_true, Nat.beq_eq] at hbe
    exact absurd hbe.2 (h2 e he hbe.1)
  · exact b

/-- Is all that is left, and not behind k, a read at most? -/
def quietX (ops : List Oper) (listed : Array Bool) (k : Nat) : Bool :=
  (List.range ops.length).all fun j => Nat.beq j k || listed.getD j true || (match ops[j]? with
    | some oj => stX oj.op || (oj.after.any fun e => Region.binds .any e && Nat.beq e.on k)
    | none => true)

theorem quietX_spec {ops : List Oper} {listed : Array Bool} {k : Nat} (hf : quietX ops listed k = true) :
    ∀ j oj, ops[j]? = some oj → j ≠ k → listed.getD j true = false → (∀ e ∈ oj.after, Region.binds .any e = true → e.on ≠ k) → stX oj.op = true := by
  intro j oj hj hjk hun hno
  unfold quietX at hf
  have hlt : j < ops.length := (List.getElem?_eq_some_iff.1 hj).1
  have h1 := List.all_eq_true.1 hf j (List.mem_range.2 hlt)
  have hb : Nat.beq j k = false := by rw [← Bool.not_eq_true, Nat.beq_eq]; exact hjk
  simp only [hb, hun, hj, Bool.false_or] at h1
  rw [Bool.or_eq_true] at h1
  rcases h1 with h1 | h1
  · exact h1
  · rw [Array.any_eq_true'] at h1
    obtain ⟨e, he, hbe⟩ := h1
    rw [Bool.and_eq_true, Nat.beq_eq] at hbe
    exact absurd hbe.2 (hno e he hbe.1)

end
end Go.Ab
